/- Gw: the functions are these. -/
import Derived.Test.YtokjbpmjdcbogaaGreatDoorGwW0
namespace Go.Proofs.YtokjbpmjdcbogaaGreatDoor.Abs
open Go Go.RowKit
set_option linter.unusedVariables false
set_option maxRecDepth 100000
set_option maxHeartbeats 4000000
variable {X : EV}
theorem zkw {a0 : ByteArray} {r : Bool} (h : zaz a0 = some r) : Cv Tryz.prog (GX X) 111 [xS a0] (zcq r) := by
 refine Cs.toV (?_ : Cs Tryz.prog (GX X) 111 [xS a0] [] (zcq r) (zkq r)) (by kernel_rfl)
 refine fnT (cx := cx X) Tryz.f111 Tryz.call111 Tryz.func111 (by kernel_rfl) ?_
 unfold zaz at h
 rcases iteE h with ⟨k1, h⟩ | ⟨k1, h⟩
 ·obtain rfl := retE h
  exact fin (ok X) 15 [.b true, .b true] (pA k1 (pA k1 pT)) (by kernel_rfl)
 ·refine adv (ok X) 12 [.b false] (pA k1 pT) (by kernel_rfl) ?_
  rcases iteE h with ⟨k2, h⟩ | ⟨k2, h⟩
  ·obtain rfl := retE h
   exact fin (ok X) 6 [.b true, .b true] (pA k2 (pA k2 pT)) (by kernel_rfl)
  ·refine adv (ok X) 3 [.b false] (pA k2 pT) (by kernel_rfl) ?_
   rcases iteE h with ⟨k3, h⟩ | ⟨k3, h⟩
   ·obtain rfl := retE h
    exact fin (ok X) 6 [.b true, .b true] (pA k3 (pA k3 pT)) (by kernel_rfl)
   ·refine adv (ok X) 3 [.b false] (pA k3 pT) (by kernel_rfl) ?_
    rcases iteE h with ⟨k4, h⟩ | ⟨k4, h⟩
    ·obtain rfl := retE h
     exact fin (ok X) 6 [.b true, .b true] (pA k4 (pA k4 pT)) (by kernel_rfl)
    ·refine adv (ok X) 3 [.b false] (pA k4 pT) (by kernel_rfl) ?_
     rcases iteE h with ⟨k5, h⟩ | ⟨k5, h⟩
     ·obtain rfl := retE h
      exact fin (ok X) 6 [.b true, .b true] (pA k5 (pA k5 pT)) (by kernel_rfl)
     ·refine adv (ok X) 3 [.b false] (pA k5 pT) (by kernel_rfl) ?_
      rcases iteE h with ⟨k6, h⟩ | ⟨k6, h⟩
      ·obtain rfl := retE h
       exact fin (ok X) 6 [.b true, .b true] (pA k6 (pA k6 pT)) (by kernel_rfl)
      ·refine adv (ok X) 3 [.b false] (pA k6 pT) (by kernel_rfl) ?_
       rcases iteE h with ⟨k7, h⟩ | ⟨k7, h⟩
       ·obtain rfl := retE h
        exact fin (ok X) 6 [.b true, .b true] (pA k7 (pA k7 pT)) (by kernel_rfl)
       ·refine adv (ok X) 2 [.b false] (pA k7 pT) (by kernel_rfl) ?_
        rcases iteE h with ⟨k8, h⟩ | ⟨k8, h⟩
        ·obtain rfl := retE h
         exact fin (ok X) 4 [.b true] (pA k8 pT) (by kernel_rfl)
        ·refine adv (ok X) 4 [.b false] (pA k8 pT) (by kernel_rfl) ?_
         rcases iteE h with ⟨k9, h⟩ | ⟨k9, h⟩
         ·obtain rfl := retE h
          exact fin (ok X) 6 [.b true, .b true] (pA k9 (pA k9 pT)) (by kernel_rfl)
         ·refine adv (ok X) 3 [.b false] (pA k9 pT) (by kernel_rfl) ?_
          rcases iteE h with ⟨k10, h⟩ | ⟨k10, h⟩
          ·obtain rfl := retE h
           exact fin (ok X) 6 [.b true, .b true] (pA k10 (pA k10 pT)) (by kernel_rfl)
          ·refine adv (ok X) 3 [.b false] (pA k10 pT) (by kernel_rfl) ?_
           rcases iteE h with ⟨k11, h⟩ | ⟨k11, h⟩
           ·obtain rfl := retE h
            exact fin (ok X) 6 [.b true, .b true] (pA k11 (pA k11 pT)) (by kernel_rfl)
           ·refine adv (ok X) 3 [.b false] (pA k11 pT) (by kernel_rfl) ?_
            rcases iteE h with ⟨k12, h⟩ | ⟨k12, h⟩
            ·obtain rfl := retE h
             exact fin (ok X) 6 [.b true, .b true] (pA k12 (pA k12 pT)) (by kernel_rfl)
            ·refine adv (ok X) 3 [.b false] (pA k12 pT) (by kernel_rfl) ?_
             rcases iteE h with ⟨k13, h⟩ | ⟨k13, h⟩
             ·obtain rfl := retE h
              exact fin (ok X) 6 [.b true, .b true] (pA k13 (pA k13 pT)) (by kernel_rfl)
             ·refine adv (ok X) 3 [.b false] (pA k13 pT) (by kernel_rfl) ?_
              rcases iteE h with ⟨k14, h⟩ | ⟨k14, h⟩
              ·obtain rfl := retE h
               exact fin (ok X) 6 [.b true, .b true] (pA k14 (pA k14 pT)) (by kernel_rfl)
              ·refine adv (ok X) 3 [.b false] (pA k14 pT) (by kernel_rfl) ?_
               rcases iteE h with ⟨k15, h⟩ | ⟨k15, h⟩
               ·obtain rfl := retE h
                exact fin (ok X) 6 [.b true, .b true] (pA k15 (pA k15 pT)) (by kernel_rfl)
               ·refine adv (ok X) 2 [.b false] (pA k15 pT) (by kernel_rfl) ?_
                rcases iteE h with ⟨k16, h⟩ | ⟨k16, h⟩
                ·obtain rfl := retE h
                 exact fin (ok X) 4 [.b true] (pA k16 pT) (by kernel_rfl)
                ·obtain rfl := retE h
                 exact fin (ok X) 6 [.b false] (pA k16 pT) (by kernel_rfl)

theorem zqc {a0 : ByteArray} {r : (z0b × Int)} (h : zd2 a0 = some r) : Cv Tryz.prog (GX X) 91 [xS a0] (zge r) := by
 refine Cs.toV (?_ : Cs Tryz.prog (GX X) 91 [xS a0] [] (zge r) (zq1 r)) (by kernel_rfl)
 refine fnT (cx := cx X) Tryz.f91 Tryz.call91 Tryz.func91 (by kernel_rfl) ?_
 unfold zd2 at h
 rcases iteE h with ⟨k1, h⟩ | ⟨k1, h⟩
 ·obtain rfl := retE h
  exact fin (ok X) 10 [.b true] (pA k1 pT) (by kernel_rfl)
 ·obtain ⟨v1, k2, h⟩ := z06 h
  refine adv (ok X) 9 [.b false, .c (zcq v1)] (pA k1 (pA (zkw (X := X) k2) pT)) (by kernel_rfl) ?_
  rcases iteE h with ⟨k3, h⟩ | ⟨k3, h⟩
  ·obtain rfl := retE h
   exact fin (ok X) 4 [.b true] (pA k3 pT) (by kernel_rfl)
  ·obtain rfl := retE h
   exact fin (ok X) 6 [.b false] (pA k3 pT) (by kernel_rfl)

theorem zuc {a0 : ByteArray} {r : Int} (h : zhb a0 = some r) : Cv Tryz.prog (GX X) 95 [xS a0] (zi4 r) := by
 refine Cs.toV (?_ : Cs Tryz.prog (GX X) 95 [xS a0] [] (zi4 r) (zu3 r)) (by kernel_rfl)
 refine fnT (cx := cx X) Tryz.f95 Tryz.call95 Tryz.func95 (by kernel_rfl) ?_
 unfold zhb at h
 refine adv (ok X) 4 [] pT (by kernel_rfl) ?_
 refine jn (ok X) 1 (fun (j1 : Bool) => ⟨21, 0, [(0, [xS a0]), (16, [xB j1])], []⟩) h (fun j1 h => ?_) (fun j1 h => ?_)
 ·rcases iteE h with ⟨k1, h⟩ | ⟨k1, h⟩
  ·obtain ⟨v1, k2, h⟩ := z06 h
   rcases iteE h with ⟨k3, h⟩ | ⟨k3, h⟩
   ·obtain ⟨v2, k4, h⟩ := z06 h
    obtain ⟨v3, k5, h⟩ := z06 h
    obtain rfl := retE h
    exact fin (ok X) 1 (.b true :: .b true :: .i v1 :: bT 4 [.i v2, .b true, .c (zq2 v3), .b true, .b true]) (pA k1 (pA k1 (pA k2 (pA k1 (pA k1 (pA k3 (pA k3 (pA k4 (pA k3 (pA (zwf (X := X) k5) (pA k3 (pA k3 pT)))))))))))) (by kernel_rfl)
   ·obtain rfl := retE h
    exact fin (ok X) 1 (.b true :: .b true :: .i v1 :: .b true :: .b true :: bF 5 []) (pA k1 (pA k1 (pA k2 (pA k1 (pA k1 (pR 5 k3 pT)))))) (by kernel_rfl)
  ·obtain rfl := retE h
   exact fin (ok X) 1 (bF 9 []) (pR 4 k1 (pR 5 ff pT)) (by kernel_rfl)
 ·rcases iteE h with ⟨k6, h⟩ | ⟨k6, h⟩
  ·obtain rfl := retE h
   exact fin (ok X) 4 [.b true] (pA k6 pT) (by kernel_rfl)
  ·obtain ⟨v4, k7, h⟩ := z06 h
   obtain ⟨v5, k8, h⟩ := z06 h
   refine adv (ok X) 5 [.b false, .i v4, .c (zq2 v5)] (pA k6 (pA k7 (pA (zwf (X := X) k8) pT))) (by kernel_rfl) ?_
   rcases iteE h with ⟨k9, h⟩ | ⟨k9, h⟩
   ·obtain rfl := retE h
    exact fin (ok X) 4 [.b true] (pA k9 pT) (by kernel_rfl)
   ·obtain rfl := retE h
    exact fin (ok X) 5 [.b false] (pA k9 pT) (by kernel_rfl)

theorem zud {a0 : ByteArray} {r : (z0b × Int)} (h : zdx a0 = some r) : Cv Tryz.prog (GX X) 55 [xS a0] (zi5 r) := by
 refine Cs.toV (?_ : Cs Tryz.prog (GX X) 55 [xS a0] [] (zi5 r) (zu4 r)) (by kernel_rfl)
 refine fnT (cx := cx X) Tryz.f55 Tryz.call55 Tryz.func55 (by kernel_rfl) ?_
 unfold zdx at h
 obtain ⟨v1, k1, h⟩ := z06 h
 obtain ⟨v2, k2, h⟩ := z06 h
 refine adv (ok X) 6 [.i v1, .c (zay v2)] (pA k1 (pA (zex (X := X) k2) pT)) (by kernel_rfl) ?_
 rcases iteE h with ⟨k3, h⟩ | ⟨k3, h⟩
 ·obtain ⟨v3, k4, h⟩ := z06 h
  obtain ⟨v4, k5, h⟩ := z06 h
  obtain ⟨v5, k6, h⟩ := z06 h
  obtain rfl := retE h
  exact fin (ok X) 4 [.b true, .c (zer v3), .x [xS v4], .c (zge v5)] (pA k3 (pA (zof (X := X) k4) (pA k5 (pA (zqc (X := X) k6) pT)))) (by kernel_rfl)
 ·obtain ⟨v6, k7, h⟩ := z06 h
  obtain ⟨v7, k8, h⟩ := z06 h
  refine adv (ok X) 3 [.b false, .i v6, .c (zdw v7)] (pA k3 (pA k7 (pA (zkc (X := X) k8) pT))) (by kernel_rfl) ?_
  rcases iteE h with ⟨k9, h⟩ | ⟨k9, h⟩
  ·obtain ⟨v8, k10, h⟩ := z06 h
   obtain ⟨v9, k11, h⟩ := z06 h
   obtain ⟨v10, k12, h⟩ := z06 h
   obtain rfl := retE h
   exact fin (ok X) 8 [.b true, .c (zer v8), .x [xS v9], .c (zs7 v10)] (pA k9 (pA (zof (X := X) k10) (pA k11 (pA (zz4 (X := X) k12) pT)))) (by kernel_rfl)
  ·obtain ⟨v11, k13, h⟩ := z06 h
   refine adv (ok X) 8 [.b false, .c (zi4 v11)] (pA k9 (pA (zuc (X := X) k13) pT)) (by kernel_rfl) ?_
   rcases iteE h with ⟨k14, h⟩ | ⟨k14, h⟩
   ·obtain rfl := retE h
    exact fin (ok X) 4 [.b true] (pA k14 pT) (by kernel_rfl)
   ·obtain ⟨v12, k15, h⟩ := z06 h
    obtain rfl := retE h
    exact fin (ok X) 5 [.b false, .x [xS v12]] (pA k14 (pA k15 pT)) (by kernel_rfl)

theorem zwh {a0 : ByteArray} {r : ((List z0b) × Int × Int)} (h : zgf a0 = some r) : Cv Tryz.prog (GX X) 19 [xS a0] (zhc r) := by
 refine Cs.toV (?_ : Cs Tryz.prog (GX X) 19 [xS a0] [] (zhc r) (zo9 r)) (by kernel_rfl)
 refine fnT (cx := cx X) Tryz.f19 Tryz.call19 Tryz.func19 (by kernel_rfl) ?_
 unfold zgf at h
 refine adv (ok X) 7 [] pT (by kernel_rfl) ?_
 refine lp (ok X) (zal a0) (fun (x1 : (Int × (List z0b))) => ⟨53, 0, [(0, [xS a0]), (5, [xR 0]), (6, [xI x1.1])], [oR true 140 4 (List.map z1l x1.2)]⟩) (fun (j1 : (List z0b)) => ⟨53, 0, [(0, [xS a0]), (5, [xR 0])], [oR true 140 4 (List.map z1l j1)]⟩) zwe (0, []) (fun _ => ⟨_, _, _, _, rfl⟩) h (by kernel_rfl) (fun x1 o h => ?_) (fun r' h => ?_) (fun j1 h => ?_)
 ·unfold zal at h
  rcases iteE h with ⟨k1, h⟩ | ⟨k1, h⟩
  ·refine adv (ok X) 8 [.b true] (pA k1 pT) (by kernel_rfl) ?_
   refine jn (ok X) 1 (fun (j2 : Bool) => ⟨53, 0, [(0, [xS a0]), (5, [xR 0]), (6, [xI x1.1]), (22, [xB j2])], [oR true 140 4 (List.map z1l x1.2)]⟩) h (fun j2 h => ?_) (fun j2 h => ?_)
   ·obtain ⟨v1, k2, h⟩ := z06 h
    rcases iteE h with ⟨k3, h⟩ | ⟨k3, h⟩
    ·obtain rfl := retE h
     exact fin (ok X) 1 (.i v1 :: bT 5 []) (pA k2 (pR 5 k3 pT)) (by kernel_rfl)
    ·obtain ⟨v2, k4, h⟩ := z06 h
     obtain rfl := retE h
     exact fin (ok X) 1 (.i v1 :: bF 3 [.i v2, .b false, .b false]) (pA k2 (pR 3 k3 (pA k4 (pA k3 (pA k3 pT))))) (by kernel_rfl)
   ·rcases iteE h with ⟨k5, h⟩ | ⟨k5, h⟩
    ·obtain rfl := retE h
     exact fin (ok X) 4 [.b true] (pA k5 pT) (by kernel_rfl)
    ·obtain ⟨v3, k6, h⟩ := z06 h
     obtain ⟨v4, k7, h⟩ := z06 h
     refine adv (ok X) 7 [.b false, .x [xS v3], .c (zi5 v4)] (pA k5 (pA k6 (pA (zud (X := X) k7) pT))) (by kernel_rfl) ?_
     rcases iteE h with ⟨k8, h⟩ | ⟨k8, h⟩
     ·obtain rfl := retE h
      exact fin (ok X) 4 [.b true] (pA k8 pT) (by kernel_rfl)
     ·obtain ⟨v5, k9, h⟩ := z06 h
      obtain rfl := retE h
      exact fin (ok X) 8 [.b false, .l (List.map z1l v5)] (pA k8 (pA (apm (L := x1.2) (M := [(z0b.mk v4.1.Kind v4.1.Text v4.1.Num x1.1)]) zc6 k9) pT)) (by kernel_rfl)
  ·obtain rfl := retE h
   exact fin (ok X) 5 [.b false] (pA k1 pT) (by kernel_rfl)
 ·obtain rfl := retE h
  kernel_rfl
 ·refine adv (ok X) 3 [.i (j1.length : Int)] (pA (lm z1l j1) pT) (by kernel_rfl) ?_
  rcases iteE h with ⟨k10, h⟩ | ⟨k10, h⟩
  ·obtain rfl := retE h
   exact fin (ok X) 4 [.b true] (pA k10 pT) (by kernel_rfl)
  ·obtain rfl := retE h
   exact fin (ok X) 5 [.b false] (pA k10 pT) (by kernel_rfl)

theorem z4j {a0 : z00} {a1 : ByteArray} {r : Bool} (h : z2k a0 a1 = some r) : Cs Tryz.prog (GX X) 56 [xP 0 0, xS a1] [oB 71 (bs (z01 a0))] (z41 r) (z42 a0 r) := by
 refine fnT (cx := cx X) Tryz.f56 Tryz.call56 Tryz.func56 (by kernel_rfl) ?_
 unfold z2k at h
 rcases iteE h with ⟨k1, h⟩ | ⟨k1, h⟩
 ·rcases iteE h with ⟨k2, h⟩ | ⟨k2, h⟩
  ·obtain ⟨v1, k3, h⟩ := z06 h
   rcases iteE h with ⟨k4, h⟩ | ⟨k4, h⟩
   ·obtain ⟨v2, k5, h⟩ := z06 h
    obtain rfl := retE h
    exact fin (ok X) 5 (bT 5 (.i (a0.f_l.length : Int) :: bT 7 (.e (z1l v1) :: bT 9 (.e (z1l v2) :: bT 5 [])))) (pR 5 k1 (pA (lm z1l a0.f_l) (pA k1 (pA k1 (pR 5 k2 (pA (ixm z1l k3) (pR 4 k2 (pR 5 k4 (pA (ixm z1l k5) (pR 5 k4 pT)))))))))) (by kernel_rfl)
   ·obtain rfl := retE h
    exact fin (ok X) 5 (bT 5 (.i (a0.f_l.length : Int) :: bT 7 (.e (z1l v1) :: bT 4 (bF 10 [])))) (pR 5 k1 (pA (lm z1l a0.f_l) (pA k1 (pA k1 (pR 5 k2 (pA (ixm z1l k3) (pR 4 k2 (pR 10 k4 pT)))))))) (by kernel_rfl)
  ·obtain rfl := retE h
   exact fin (ok X) 5 (bT 5 (.i (a0.f_l.length : Int) :: .b true :: .b true :: bF 19 [])) (pR 5 k1 (pA (lm z1l a0.f_l) (pA k1 (pA k1 (pR 9 k2 (pR 10 ff pT)))))) (by kernel_rfl)
 ·obtain rfl := retE h
  exact fin (ok X) 5 (bF 26 []) (pR 7 k1 (pR 19 ff pT)) (by kernel_rfl)

theorem z27 {a0 : z00} {a1 : ByteArray} {r : (z00 × Bool)} (h : z0d a0 a1 = some r) : Cs Tryz.prog (GX X) 20 [xP 0 0, xS a1] [oB 71 (bs (z01 a0))] (z1u r) (z1v r) := by
 refine fnT (cx := cx X) Tryz.f20 Tryz.call20 Tryz.func20 (by kernel_rfl) ?_
 unfold z0d at h
 obtain ⟨v1, k1, h⟩ := z06 h
 refine adv (ok X) 5 [.s (z41 v1) (z42 a0 v1)] (pA (z4j (X := X) k1) pT) (by kernel_rfl) ?_
 rcases iteE h with ⟨k2, h⟩ | ⟨k2, h⟩
 ·obtain rfl := retE h
  exact fin (ok X) 4 [.b true] (pA k2 pT) (by kernel_rfl)
 ·obtain ⟨v2, k3, h⟩ := z06 h
  obtain rfl := retE h
  exact fin (ok X) 7 [.b false, .l (List.map z1l v2)] (pA k2 (pA (lsm0 z1l k3) (pA (lnm zc6 a0.f_l) pT))) (by kernel_rfl)

theorem zao {a0 : z00} {a1 : Int} {r : Bool} (h : z4t a0 a1 = some r) : Cs Tryz.prog (GX X) 115 [xP 0 0, xI a1] [oB 71 (bs (z01 a0))] (z82 r) (z83 a0 r) := by
 refine fnT (cx := cx X) Tryz.f115 Tryz.call115 Tryz.func115 (by kernel_rfl) ?_
 unfold z4t at h
 rcases iteE h with ⟨k1, h⟩ | ⟨k1, h⟩
 ·rcases iteE h with ⟨k2, h⟩ | ⟨k2, h⟩
  ·obtain ⟨v1, k3, h⟩ := z06 h
   obtain rfl := retE h
   exact fin (ok X) 5 (bT 5 (.i (a0.f_l.length : Int) :: bT 7 (.e (z1l v1) :: bT 5 []))) (pR 5 k1 (pA (lm z1l a0.f_l) (pA k1 (pA k1 (pR 5 k2 (pA (ixm z1l k3) (pR 5 k2 pT))))))) (by kernel_rfl)
  ·obtain rfl := retE h
   exact fin (ok X) 5 (bT 5 (.i (a0.f_l.length : Int) :: .b true :: .b true :: bF 10 [])) (pR 5 k1 (pA (lm z1l a0.f_l) (pA k1 (pA k1 (pR 10 k2 pT))))) (by kernel_rfl)
 ·obtain rfl := retE h
  exact fin (ok X) 5 (bF 17 []) (pR 7 k1 (pR 10 ff pT)) (by kernel_rfl)

theorem z4k {a0 : z00} {a1 : Int} {r : z00} (h : z1o a0 a1 = some r) : Cs Tryz.prog (GX X) 24 [xP 0 0, xI a1] [oB 71 (bs (z01 a0))] (z43 r) (z44 r) := by
 refine fnT (cx := cx X) Tryz.f24 Tryz.call24 Tryz.func24 (by kernel_rfl) ?_
 unfold z1o at h
 rcases iteE h with ⟨k1, h⟩ | ⟨k1, h⟩
 ·obtain rfl := retE h
  exact fin (ok X) 5 [.b true] (pA k1 pT) (by kernel_rfl)
 ·refine adv (ok X) 9 [.b false, .i (a0.f_l.length : Int)] (pA k1 (pA (lm z1l a0.f_l) pT)) (by kernel_rfl) ?_
  rcases iteE h with ⟨k2, h⟩ | ⟨k2, h⟩
  ·obtain ⟨v1, k3, h⟩ := z06 h
   obtain rfl := retE h
   exact fin (ok X) 2 [.b true, .e (z1l v1)] (pA k2 (pA (ixm z1l k3) pT)) (by kernel_rfl)
  ·obtain rfl := retE h
   exact fin (ok X) 2 [.b false] (pA k2 pT) (by kernel_rfl)

theorem zc8 {a0 : z00} {a1 : Int} {r : (z00 × z0b)} (h : z4m a0 a1 = some r) : Cs Tryz.prog (GX X) 96 [xP 0 0, xI a1] [oB 71 (bs (z01 a0))] (z8v r) (z8w r) := by
 refine fnT (cx := cx X) Tryz.f96 Tryz.call96 Tryz.func96 (by kernel_rfl) ?_
 unfold z4m at h
 obtain ⟨v1, k1, h⟩ := z06 h
 refine adv (ok X) 5 [.s (z82 v1) (z83 a0 v1)] (pA (zao (X := X) k1) pT) (by kernel_rfl) ?_
 rcases iteE h with ⟨k2, h⟩ | ⟨k2, h⟩
 ·obtain ⟨v2, k3, h⟩ := z06 h
  obtain rfl := retE h
  exact fin (ok X) 6 [.b true, .s (z43 v2) (z44 v2)] (pA k2 (pA (z4k (X := X) k3) pT)) (by kernel_rfl)
 ·obtain ⟨v3, k4, h⟩ := z06 h
  obtain ⟨v4, k5, h⟩ := z06 h
  obtain rfl := retE h
  exact fin (ok X) 9 [.b false, .e (z1l v3), .l (List.map z1l v4)] (pA k2 (pA (ixm z1l k4) (pA (lsm0 z1l k5) (pA (lnm zc6 a0.f_l) pT)))) (by kernel_rfl)

theorem z1k {a0 : z00} {r : (z00 × ByteArray)} (h : z0c a0 = some r) : Cs Tryz.prog (GX X) 57 [xP 0 0] [oB 71 (bs (z01 a0))] (z1f r) (z1g r) := by
 refine fnT (cx := cx X) Tryz.f57 Tryz.call57 Tryz.func57 (by kernel_rfl) ?_
 unfold z0c at h
 obtain ⟨v1, k1, h⟩ := z06 h
 obtain rfl := retE h
 exact fin (ok X) 5 [.s (z8v v1) (z8w v1)] (pA (zc8 (X := X) k1) pT) (by kernel_rfl)

theorem z61 {a0 : (List ByteArray)} {a1010 : z00} {r : (z00 × Int)} (h : z1n a0 a1010 = some r) : Cs Tryz.prog (GX X) 97 [xL (List.map z1d a0), .fn (.func 20) [.box 0 0] []] [oB 71 (bs (z01 a1010))] (z2w r) (z2x r) := by
 refine fnT (cx := cx X) Tryz.f97 Tryz.call97 Tryz.func97 (by kernel_rfl) ?_
 unfold z1n at h
 refine adv (ok X) 5 [.i (a0.length : Int)] (pA (lm z1d a0) pT) (by kernel_rfl) ?_
 refine lp (ok X) (z0g a0) (fun (x1 : (Int × (List z0b) × Int × Int × Int × Int × Int)) => ⟨19, 1, [(0, [xL (List.map z1d a0)]), (1, [.fn (.func 20) [.box 0 0] []]), (7, [xI (a0.length : Int)]), (8, [xI x1.1])], [oB 71 (bs (z01 (z00.mk x1.2.1 x1.2.2.1 x1.2.2.2.1 x1.2.2.2.2.1 x1.2.2.2.2.2.1 x1.2.2.2.2.2.2)))]⟩) (fun (j1 : ((List z0b) × Int × Int × Int × Int × Int)) => ⟨19, 1, [], [oB 71 (bs (z01 (z00.mk j1.1 j1.2.1 j1.2.2.1 j1.2.2.2.1 j1.2.2.2.2.1 j1.2.2.2.2.2)))]⟩) z60 (0, a1010.f_l, a1010.f_end, a1010.f_e, a1010.f_at, a1010.f_deep, a1010.f_in) (fun _ => ⟨_, _, _, _, rfl⟩) h (by kernel_rfl) (fun x1 o h => ?_) (fun r' h => ?_) (fun j1 h => ?_)
 ·unfold z0g at h
  rcases iteE h with ⟨k1, h⟩ | ⟨k1, h⟩
  ·obtain ⟨v1, k2, h⟩ := z06 h
   obtain ⟨v2, k3, h⟩ := z06 h
   refine adv (ok X) 11 [.b true, .e [.str v1], .s (z1u v2) (z1v v2)] (pA k1 (pA (ixm z1d k2) (pA (z27 (X := X) k3) pT))) (by kernel_rfl) ?_
   rcases iteE h with ⟨k4, h⟩ | ⟨k4, h⟩
   ·obtain rfl := retE h
    exact fin (ok X) 4 [.b true] (pA k4 pT) (by kernel_rfl)
   ·obtain rfl := retE h
    exact fin (ok X) 4 [.b false] (pA k4 pT) (by kernel_rfl)
  ·obtain rfl := retE h
   exact fin (ok X) 5 [.b false] (pA k1 pT) (by kernel_rfl)
 ·obtain rfl := retE h
  kernel_rfl
 ·obtain rfl := retE h
  exact fin (ok X) 3 [] pT (by kernel_rfl)

theorem z6q {a0 : z00} {a1 : (List ByteArray)} {r : (z00 × Int)} (h : z1a a0 a1 = some r) : Cs Tryz.prog (GX X) 58 [xP 0 0, xL (List.map z1d a1)] [oB 71 (bs (z01 a0))] (z5l r) (z5m r) := by
 refine fnT (cx := cx X) Tryz.f58 Tryz.call58 Tryz.func58 (by kernel_rfl) ?_
 unfold z1a at h
 obtain ⟨v1, k1, h⟩ := z06 h
 obtain rfl := retE h
 exact fin (ok X) 5 [.s (z2w v1) (z2x v1)] (pA (z61 (X := X) k1) pT) (by kernel_rfl)

theorem z6h {a0 : z00} {r : (z00 × Int)} (h : z1j a0 = some r) : Cs Tryz.prog (GX X) 59 [xP 0 0] [oB 71 (bs (z01 a0))] (z59 r) (z5a r) := by
 refine fnT (cx := cx X) Tryz.f59 Tryz.call59 Tryz.func59 (by kernel_rfl) ?_
 unfold z1j at h
 obtain ⟨v1, k1, h⟩ := z06 h
 obtain rfl := retE h
 exact fin (ok X) 5 [.s (z8v v1) (z8w v1)] (pA (zc8 (X := X) k1) pT) (by kernel_rfl)

theorem z0k {a0 : z00} {a1 : ByteArray} {r : z00} (h : z04 a0 a1 = some r) : Cs Tryz.prog (GX X) 60 [xP 0 0, xS a1] [oB 71 (bs (z01 a0))] (z0h r) (z0i r) := by
 refine fnT (cx := cx X) Tryz.f60 Tryz.call60 Tryz.func60 (by kernel_rfl) ?_
 unfold z04 at h
 obtain ⟨v1, k1, h⟩ := z06 h
 refine adv (ok X) 2 [.s (z1u v1) (z1v v1)] (pA (z27 (X := X) k1) pT) (by kernel_rfl) ?_
 rcases iteE h with ⟨k2, h⟩ | ⟨k2, h⟩
 ·obtain ⟨v2, k3, h⟩ := z06 h
  obtain rfl := retE h
  exact fin (ok X) 2 [.b true, .s (z43 v2) (z44 v2)] (pA k2 (pA (z4k (X := X) k3) pT)) (by kernel_rfl)
 ·obtain rfl := retE h
  exact fin (ok X) 2 [.b false] (pA k2 pT) (by kernel_rfl)

theorem zec {a0 : z00} {r : (z00 × z24)} (h : z4v a0 = some r) : Cs Tryz.prog (GX X) 21 [xP 0 0] [oB 71 (bs (z01 a0))] (z7g r) (z7h r) := by
 refine fnT (cx := cx X) Tryz.f21 Tryz.call21 Tryz.func21 (by kernel_rfl) ?_
 unfold z4v at h
 obtain ⟨v1, k1, h⟩ := z06 h
 obtain ⟨v2, k2, h⟩ := z06 h
 refine adv (ok X) 9 [.s (z1f v1) (z1g v1), .s (z5l v2) (z5m v2)] (pA (z1k (X := X) k1) (pA (z6q (X := X) k2) pT)) (by kernel_rfl) ?_
 rcases iteE h with ⟨k3, h⟩ | ⟨k3, h⟩
 ·obtain ⟨v3, k4, h⟩ := z06 h
  obtain rfl := retE h
  exact fin (ok X) 6 [.b true, .s (z43 v3) (z44 v3)] (pA k3 (pA (z4k (X := X) k4) pT)) (by kernel_rfl)
 ·obtain ⟨v4, k5, h⟩ := z06 h
  obtain ⟨v5, k6, h⟩ := z06 h
  obtain ⟨v6, k7, h⟩ := z06 h
  obtain ⟨v7, k8, h⟩ := z06 h
  obtain ⟨v8, k9, h⟩ := z06 h
  obtain ⟨v9, k10, h⟩ := z06 h
  obtain ⟨v10, k11, h⟩ := z06 h
  obtain ⟨v11, k12, h⟩ := z06 h
  refine adv (ok X) 17 [.b false, .s (z59 v4) (z5a v4), .s (z0h v5) (z0i v5), .s (z1f v6) (z1g v6), .s (z0h v7) (z0i v7), .s (z1f v8) (z1g v8), .s (z0h v9) (z0i v9), .o [0, 1, 2, 3, 4, 5, 6, 7], .s (z1f v10) (z1g v10), .l (List.map z1d v11)] (pA k3 (pA (z6h (X := X) k5) (pA (z0k (X := X) k6) (pA (z1k (X := X) k7) (pA (z0k (X := X) k8) (pA (z1k (X := X) k9) (pA (z0k (X := X) k10) (pA (z1k (X := X) k11) (pA (apm (L := []) (M := [v10.2]) z1e k12) pT))))))))) (by kernel_rfl) ?_
  refine lp (ok X) (z1m) (fun (x1 : ((List z0b) × Int × Int × Int × Int × Int × (List ByteArray))) => ⟨53, 1, [(0, [xP 0 0]), (2, [xP 1 0]), (3, [xP 2 0])], [oB 71 (bs (z01 (z00.mk x1.1 x1.2.1 x1.2.2.1 x1.2.2.2.1 x1.2.2.2.2.1 x1.2.2.2.2.2.1))), oB 73 [.pv (.str (ByteArray.mk #[])), .pv (.int .i64 0), .pv (.int .i64 0), .pv (.str (ByteArray.mk #[])), .pv (.str (ByteArray.mk #[])), .emp], oB 73 [.pv (.str v1.2), .pv (.int .i64 v2.2), .pv (.int .i64 v4.2), .pv (.str v6.2), .pv (.str v8.2), .row 3], oR true 9 1 (List.map z1d x1.2.2.2.2.2.2)]⟩) (fun (j1 : ((List z0b) × Int × Int × Int × Int × Int × (List ByteArray))) => ⟨53, 1, [(0, [xP 0 0]), (2, [xP 1 0]), (3, [xP 2 0])], [oB 71 (bs (z01 (z00.mk j1.1 j1.2.1 j1.2.2.1 j1.2.2.2.1 j1.2.2.2.2.1 j1.2.2.2.2.2.1))), oB 73 [.pv (.str (ByteArray.mk #[])), .pv (.int .i64 0), .pv (.int .i64 0), .pv (.str (ByteArray.mk #[])), .pv (.str (ByteArray.mk #[])), .emp], oB 73 [.pv (.str v1.2), .pv (.int .i64 v2.2), .pv (.int .i64 v4.2), .pv (.str v6.2), .pv (.str v8.2), .row 3], oR true 9 1 (List.map z1d j1.2.2.2.2.2.2)]⟩) ze8 (v10.1.f_l, v10.1.f_end, v10.1.f_e, v10.1.f_at, v10.1.f_deep, v10.1.f_in, v11) (fun _ => ⟨_, _, _, _, rfl⟩) h (by kernel_rfl) (fun x1 o h => ?_) (fun r' h => ?_) (fun j1 h => ?_)
  ·unfold z1m at h
   obtain ⟨v12, k13, h⟩ := z06 h
   refine adv (ok X) 3 [.s (z1u v12) (z1v v12)] (pA (z27 (X := X) k13) pT) (by kernel_rfl) ?_
   rcases iteE h with ⟨k14, h⟩ | ⟨k14, h⟩
   ·obtain ⟨v13, k15, h⟩ := z06 h
    obtain ⟨v14, k16, h⟩ := z06 h
    obtain rfl := retE h
    exact fin (ok X) 5 [.b true, .o [0, 1, 2, 3, 4, 5, 6, 7], .s (z1f v13) (z1g v13), .l (List.map z1d v14)] (pA k14 (pA (z1k (X := X) k15) (pA (apm (L := x1.2.2.2.2.2.2) (M := [v13.2]) z1e k16) pT))) (by kernel_rfl)
   ·obtain rfl := retE h
    exact fin (ok X) 2 [.b false] (pA k14 pT) (by kernel_rfl)
  ·cases h
  ·obtain ⟨v15, k17, h⟩ := z06 h
   obtain ⟨v16, k18, h⟩ := z06 h
   obtain rfl := retE h
   exact fin (ok X) 7 [.s (z0h v15) (z0i v15), .s (z0h v16) (z0i v16)] (pA (z0k (X := X) k17) (pA (z0k (X := X) k18) pT)) (by kernel_rfl)

theorem zgk {a0 : z00} {r : (z00 × z2c)} (h : z5w a0 = some r) : Cs Tryz.prog (GX X) 22 [xP 0 0] [oB 71 (bs (z01 a0))] (z8x r) (z8y r) := by
 refine fnT (cx := cx X) Tryz.f22 Tryz.call22 Tryz.func22 (by kernel_rfl) ?_
 unfold z5w at h
 obtain ⟨v1, k1, h⟩ := z06 h
 obtain ⟨v2, k2, h⟩ := z06 h
 refine adv (ok X) 7 [.s (z1f v1) (z1g v1), .s (z0h v2) (z0i v2)] (pA (z1k (X := X) k1) (pA (z0k (X := X) k2) pT)) (by kernel_rfl) ?_
 refine lp (ok X) (z2q) (fun (x1 : ((List z0b) × Int × Int × Int × Int × Int × (List z35))) => ⟨38, 1, [(0, [xP 0 0]), (2, [xP 1 0]), (3, [xP 2 0])], [oB 71 (bs (z01 (z00.mk x1.1 x1.2.1 x1.2.2.1 x1.2.2.2.1 x1.2.2.2.2.1 x1.2.2.2.2.2.1))), oB 77 [.pv (.str (ByteArray.mk #[])), .emp], oB 77 [.pv (.str v1.2), .row 3], oR true 111 3 (List.map z3r x1.2.2.2.2.2.2)]⟩) (fun (j1 : ((List z0b) × Int × Int × Int × Int × Int × (List z35))) => ⟨38, 1, [(0, [xP 0 0]), (2, [xP 1 0]), (3, [xP 2 0])], [oB 71 (bs (z01 (z00.mk j1.1 j1.2.1 j1.2.2.1 j1.2.2.2.1 j1.2.2.2.2.1 j1.2.2.2.2.2.1))), oB 77 [.pv (.str (ByteArray.mk #[])), .emp], oB 77 [.pv (.str v1.2), .row 3], oR true 111 3 (List.map z3r j1.2.2.2.2.2.2)]⟩) zgg (v2.f_l, v2.f_end, v2.f_e, v2.f_at, v2.f_deep, v2.f_in, []) (fun _ => ⟨_, _, _, _, rfl⟩) h (by kernel_rfl) (fun x1 o h => ?_) (fun r' h => ?_) (fun j1 h => ?_)
 ·unfold z2q at h
  refine adv (ok X) 2 [] pT (by kernel_rfl) ?_
  refine jn (ok X) 1 (fun (j2 : Bool) => ⟨38, 1, [(0, [xP 0 0]), (2, [xP 1 0]), (3, [xP 2 0]), (19, [xB j2])], [oB 71 (bs (z01 (z00.mk x1.1 x1.2.1 x1.2.2.1 x1.2.2.2.1 x1.2.2.2.2.1 x1.2.2.2.2.2.1))), oB 77 [.pv (.str (ByteArray.mk #[])), .emp], oB 77 [.pv (.str v1.2), .row 3], oR true 111 3 (List.map z3r x1.2.2.2.2.2.2)]⟩) h (fun j2 h => ?_) (fun j2 h => ?_)
  ·rcases iteE h with ⟨k3, h⟩ | ⟨k3, h⟩
   ·obtain ⟨v3, k4, h⟩ := z06 h
    obtain rfl := retE h
    exact fin (ok X) 1 [.b true, .b true, .s (z41 v3) (z42 (z00.mk x1.1 x1.2.1 x1.2.2.1 x1.2.2.2.1 x1.2.2.2.2.1 x1.2.2.2.2.2.1) v3), .b true, .b true] (pA k3 (pA k3 (pA (z4j (X := X) k4) (pA k3 (pA k3 pT))))) (by kernel_rfl)
   ·obtain rfl := retE h
    exact fin (ok X) 1 (bF 4 []) (pR 4 k3 pT) (by kernel_rfl)
  ·rcases iteE h with ⟨k5, h⟩ | ⟨k5, h⟩
   ·obtain ⟨v4, k6, h⟩ := z06 h
    obtain ⟨v5, k7, h⟩ := z06 h
    obtain ⟨v6, k8, h⟩ := z06 h
    obtain ⟨v7, k9, h⟩ := z06 h
    obtain ⟨v8, k10, h⟩ := z06 h
    obtain rfl := retE h
    exact fin (ok X) 9 [.b true, .s (z59 v4) (z5a v4), .s (z1f v5) (z1g v5), .s (z59 v6) (z5a v6), .s (z0h v7) (z0i v7), .l (List.map z3r v8)] (pA k5 (pA (z6h (X := X) k6) (pA (z1k (X := X) k7) (pA (z6h (X := X) k8) (pA (z0k (X := X) k9) (pA (apm (L := x1.2.2.2.2.2.2) (M := [(z35.mk v4.2 v5.2 v6.2)]) zfy k10) pT)))))) (by kernel_rfl)
   ·obtain rfl := retE h
    exact fin (ok X) 2 [.b false] (pA k5 pT) (by kernel_rfl)
 ·cases h
 ·obtain ⟨v9, k11, h⟩ := z06 h
  obtain rfl := retE h
  exact fin (ok X) 5 [.s (z0h v9) (z0i v9)] (pA (z0k (X := X) k11) pT) (by kernel_rfl)

theorem zbb {a0 : z00} {r : (z00 × Bool)} (h : z5e a0 = some r) : Cs Tryz.prog (GX X) 187 [xP 0 0] [oB 71 (bs (z01 a0))] (z8f r) (z8g r) := by
 refine fnT (cx := cx X) Tryz.f187 Tryz.call187 Tryz.func187 (by kernel_rfl) ?_
 unfold z5e at h
 rcases iteE h with ⟨k1, h⟩ | ⟨k1, h⟩
 ·obtain ⟨v1, k2, h⟩ := z06 h
  obtain rfl := retE h
  exact fin (ok X) 11 [.b true, .s (z43 v1) (z44 v1)] (pA k1 (pA (z4k (X := X) k2) pT)) (by kernel_rfl)
 ·obtain rfl := retE h
  exact fin (ok X) 12 [.b false] (pA k1 pT) (by kernel_rfl)

theorem zgl {n : Nat} (ih_parse_reader_expr : ∀ (a0 : z00) (r : (z00 × z03)), z13 n a0 = some r → Cs Tryz.prog (GX X) 141 [xP 0 0] [oB 71 (bs (z01 a0))] (z1w r) (z1x r)) (ih_parse_reader_chain_parse_reader_term : ∀ (a0 : z00) (a2 : (List ByteArray)) (a3 : Int) (r : (z00 × z03)), z08 n a0 a2 a3 = some r → Cs Tryz.prog (GX X) 160 [xP 0 0, .fn (.func 161) [.box 0 0] [], xL (List.map z1d a2), xI a3] [oB 71 (bs (z01 a0))] (z0v r) (z0w r)) (ih_parse_reader_term : ∀ (a0 : z00) (r : (z00 × z03)), z0z n a0 = some r → Cs Tryz.prog (GX X) 161 [xP 0 0] [oB 71 (bs (z01 a0))] (z2y r) (z2z r)) (ih_parse_reader_chain_parse_reader_factor : ∀ (a0 : z00) (a2 : (List ByteArray)) (a3 : Int) (r : (z00 × z03)), z07 n a0 a2 a3 = some r → Cs Tryz.prog (GX X) 160 [xP 0 0, .fn (.func 174) [.box 0 0] [], xL (List.map z1d a2), xI a3] [oB 71 (bs (z01 a0))] (z0p r) (z0q r)) (ih_parse_reader_factor : ∀ (a0 : z00) (r : (z00 × z03)), z0e n a0 = some r → Cs Tryz.prog (GX X) 174 [xP 0 0] [oB 71 (bs (z01 a0))] (z2e r) (z2f r)) (ih_parse_reader_negated : ∀ (a0 : z00) (r : (z00 × z03)), z10 n a0 = some r → Cs Tryz.prog (GX X) 183 [xP 0 0] [oB 71 (bs (z01 a0))] (z2o r) (z2p r)) (ih_parse_reader_parens : ∀ (a0 : z00) (r : (z00 × z03)), z14 n a0 = some r → Cs Tryz.prog (GX X) 184 [xP 0 0] [oB 71 (bs (z01 a0))] (z2s r) (z2t r)) (a0 : z00) (r : (z00 × z03)) (h : z13 (n + 1) a0 = some r) : Cs Tryz.prog (GX X) 141 [xP 0 0] [oB 71 (bs (z01 a0))] (z1w r) (z1x r) := by
 refine fnT (cx := cx X) Tryz.f141 Tryz.call141 Tryz.func141 (by kernel_rfl) ?_
 rw [z13] at h
 obtain ⟨v1, k1, h⟩ := z06 h
 obtain rfl := retE h
 exact fin (ok X) 5 [.s (z0v v1) (z0w v1)] (pA (ih_parse_reader_chain_parse_reader_term _ _ _ _ k1) pT) (by kernel_rfl)

theorem z8b {n : Nat} (ih_parse_reader_expr : ∀ (a0 : z00) (r : (z00 × z03)), z13 n a0 = some r → Cs Tryz.prog (GX X) 141 [xP 0 0] [oB 71 (bs (z01 a0))] (z1w r) (z1x r)) (ih_parse_reader_chain_parse_reader_term : ∀ (a0 : z00) (a2 : (List ByteArray)) (a3 : Int) (r : (z00 × z03)), z08 n a0 a2 a3 = some r → Cs Tryz.prog (GX X) 160 [xP 0 0, .fn (.func 161) [.box 0 0] [], xL (List.map z1d a2), xI a3] [oB 71 (bs (z01 a0))] (z0v r) (z0w r)) (ih_parse_reader_term : ∀ (a0 : z00) (r : (z00 × z03)), z0z n a0 = some r → Cs Tryz.prog (GX X) 161 [xP 0 0] [oB 71 (bs (z01 a0))] (z2y r) (z2z r)) (ih_parse_reader_chain_parse_reader_factor : ∀ (a0 : z00) (a2 : (List ByteArray)) (a3 : Int) (r : (z00 × z03)), z07 n a0 a2 a3 = some r → Cs Tryz.prog (GX X) 160 [xP 0 0, .fn (.func 174) [.box 0 0] [], xL (List.map z1d a2), xI a3] [oB 71 (bs (z01 a0))] (z0p r) (z0q r)) (ih_parse_reader_factor : ∀ (a0 : z00) (r : (z00 × z03)), z0e n a0 = some r → Cs Tryz.prog (GX X) 174 [xP 0 0] [oB 71 (bs (z01 a0))] (z2e r) (z2f r)) (ih_parse_reader_negated : ∀ (a0 : z00) (r : (z00 × z03)), z10 n a0 = some r → Cs Tryz.prog (GX X) 183 [xP 0 0] [oB 71 (bs (z01 a0))] (z2o r) (z2p r)) (ih_parse_reader_parens : ∀ (a0 : z00) (r : (z00 × z03)), z14 n a0 = some r → Cs Tryz.prog (GX X) 184 [xP 0 0] [oB 71 (bs (z01 a0))] (z2s r) (z2t r)) (a0 : z00) (a2 : (List ByteArray)) (a3 : Int) (r : (z00 × z03)) (h : z08 (n + 1) a0 a2 a3 = some r) : Cs Tryz.prog (GX X) 160 [xP 0 0, .fn (.func 161) [.box 0 0] [], xL (List.map z1d a2), xI a3] [oB 71 (bs (z01 a0))] (z0v r) (z0w r) := by
 refine fnT (cx := cx X) Tryz.f160 Tryz.call160 Tryz.func160 (by kernel_rfl) ?_
 rw [z08] at h
 obtain ⟨v1, k1, h⟩ := z06 h
 refine adv (ok X) 5 [.s (z2y v1) (z2z v1)] (pA (ih_parse_reader_term _ _ k1) pT) (by kernel_rfl) ?_
 refine lp (ok X) (z23 (z13 n) (z08 n) (z0z n) (z07 n) (z0e n) (z10 n) (z14 n) a2 a3) (fun (x1 : ((List z0b) × Int × Int × Int × Int × Int × Int × Int × ByteArray × (List z03))) => ⟨32, 1, [(0, [xP 0 0]), (1, [.fn (.func 161) [.box 0 0] []]), (2, [xL (List.map z1d a2)]), (3, [xI a3]), (8, [xP 1 0]), (9, [xP 2 0])], [oB 71 (bs (z01 (z00.mk x1.1 x1.2.1 x1.2.2.1 x1.2.2.2.1 x1.2.2.2.2.1 x1.2.2.2.2.2.1))), oB 103 [.pv (.int .i64 0), .pv (.int .i64 0), .pv (.str (ByteArray.mk #[])), .emp], oB 103 (bs (z2j (z03.mk x1.2.2.2.2.2.2.1 x1.2.2.2.2.2.2.2.1 x1.2.2.2.2.2.2.2.2.1 x1.2.2.2.2.2.2.2.2.2)))]⟩) (fun (j1 : ((List z0b) × Int × Int × Int × Int × Int × Int × Int × ByteArray × (List z03))) => ⟨32, 1, [(8, [xP 1 0]), (9, [xP 2 0])], [oB 71 (bs (z01 (z00.mk j1.1 j1.2.1 j1.2.2.1 j1.2.2.2.1 j1.2.2.2.2.1 j1.2.2.2.2.2.1))), oB 103 [.pv (.int .i64 0), .pv (.int .i64 0), .pv (.str (ByteArray.mk #[])), .emp], oB 103 (bs (z2j (z03.mk j1.2.2.2.2.2.2.1 j1.2.2.2.2.2.2.2.1 j1.2.2.2.2.2.2.2.2.1 j1.2.2.2.2.2.2.2.2.2)))]⟩) z84 (v1.1.f_l, v1.1.f_end, v1.1.f_e, v1.1.f_at, v1.1.f_deep, v1.1.f_in, v1.2.Kind, v1.2.Num, v1.2.Name, v1.2.Kids) (fun _ => ⟨_, _, _, _, rfl⟩) h (by kernel_rfl) (fun x1 o h => ?_) (fun r' h => ?_) (fun j1 h => ?_)
 ·unfold z23 at h
  rcases iteE h with ⟨k2, h⟩ | ⟨k2, h⟩
  ·obtain ⟨v2, k3, h⟩ := z06 h
   refine adv (ok X) 11 [.b true, .s (z5l v2) (z5m v2)] (pA k2 (pA (z6q (X := X) k3) pT)) (by kernel_rfl) ?_
   rcases iteE h with ⟨k4, h⟩ | ⟨k4, h⟩
   ·obtain rfl := retE h
    exact fin (ok X) 2 [.b true] (pA k4 pT) (by kernel_rfl)
   ·obtain ⟨v3, k5, h⟩ := z06 h
    obtain rfl := retE h
    exact fin (ok X) 4 [.b false, .o [0, 1, 2, 3, 4, 5, 6, 7, 8], .s (z2y v3) (z2z v3), .bl (List.map z0t [(z03.mk x1.2.2.2.2.2.2.1 x1.2.2.2.2.2.2.2.1 x1.2.2.2.2.2.2.2.2.1 x1.2.2.2.2.2.2.2.2.2), v3.2])] (pA k4 (pA (ih_parse_reader_term _ _ k5) (pA (blc (e := z0t) (x := (z03.mk x1.2.2.2.2.2.2.1 x1.2.2.2.2.2.2.2.1 x1.2.2.2.2.2.2.2.2.1 x1.2.2.2.2.2.2.2.2.2)) (z4i _).symm (blc (e := z0t) (x := v3.2) (z4i _).symm (bl0 z0t))) pT))) (by kernel_rfl)
  ·obtain rfl := retE h
   exact fin (ok X) 5 [.b false] (pA k2 pT) (by kernel_rfl)
 ·cases h
 ·obtain rfl := retE h
  exact fin (ok X) 3 [] pT (by kernel_rfl)

theorem zgm {n : Nat} (ih_parse_reader_expr : ∀ (a0 : z00) (r : (z00 × z03)), z13 n a0 = some r → Cs Tryz.prog (GX X) 141 [xP 0 0] [oB 71 (bs (z01 a0))] (z1w r) (z1x r)) (ih_parse_reader_chain_parse_reader_term : ∀ (a0 : z00) (a2 : (List ByteArray)) (a3 : Int) (r : (z00 × z03)), z08 n a0 a2 a3 = some r → Cs Tryz.prog (GX X) 160 [xP 0 0, .fn (.func 161) [.box 0 0] [], xL (List.map z1d a2), xI a3] [oB 71 (bs (z01 a0))] (z0v r) (z0w r)) (ih_parse_reader_term : ∀ (a0 : z00) (r : (z00 × z03)), z0z n a0 = some r → Cs Tryz.prog (GX X) 161 [xP 0 0] [oB 71 (bs (z01 a0))] (z2y r) (z2z r)) (ih_parse_reader_chain_parse_reader_factor : ∀ (a0 : z00) (a2 : (List ByteArray)) (a3 : Int) (r : (z00 × z03)), z07 n a0 a2 a3 = some r → Cs Tryz.prog (GX X) 160 [xP 0 0, .fn (.func 174) [.box 0 0] [], xL (List.map z1d a2), xI a3] [oB 71 (bs (z01 a0))] (z0p r) (z0q r)) (ih_parse_reader_factor : ∀ (a0 : z00) (r : (z00 × z03)), z0e n a0 = some r → Cs Tryz.prog (GX X) 174 [xP 0 0] [oB 71 (bs (z01 a0))] (z2e r) (z2f r)) (ih_parse_reader_negated : ∀ (a0 : z00) (r : (z00 × z03)), z10 n a0 = some r → Cs Tryz.prog (GX X) 183 [xP 0 0] [oB 71 (bs (z01 a0))] (z2o r) (z2p r)) (ih_parse_reader_parens : ∀ (a0 : z00) (r : (z00 × z03)), z14 n a0 = some r → Cs Tryz.prog (GX X) 184 [xP 0 0] [oB 71 (bs (z01 a0))] (z2s r) (z2t r)) (a0 : z00) (r : (z00 × z03)) (h : z0z (n + 1) a0 = some r) : Cs Tryz.prog (GX X) 161 [xP 0 0] [oB 71 (bs (z01 a0))] (z2y r) (z2z r) := by
 refine fnT (cx := cx X) Tryz.f161 Tryz.call161 Tryz.func161 (by kernel_rfl) ?_
 rw [z0z] at h
 obtain ⟨v1, k1, h⟩ := z06 h
 obtain rfl := retE h
 exact fin (ok X) 5 [.s (z0p v1) (z0q v1)] (pA (ih_parse_reader_chain_parse_reader_factor _ _ _ _ k1) pT) (by kernel_rfl)

theorem z7l {n : Nat} (ih_parse_reader_expr : ∀ (a0 : z00) (r : (z00 × z03)), z13 n a0 = some r → Cs Tryz.prog (GX X) 141 [xP 0 0] [oB 71 (bs (z01 a0))] (z1w r) (z1x r)) (ih_parse_reader_chain_parse_reader_term : ∀ (a0 : z00) (a2 : (List ByteArray)) (a3 : Int) (r : (z00 × z03)), z08 n a0 a2 a3 = some r → Cs Tryz.prog (GX X) 160 [xP 0 0, .fn (.func 161) [.box 0 0] [], xL (List.map z1d a2), xI a3] [oB 71 (bs (z01 a0))] (z0v r) (z0w r)) (ih_parse_reader_term : ∀ (a0 : z00) (r : (z00 × z03)), z0z n a0 = some r → Cs Tryz.prog (GX X) 161 [xP 0 0] [oB 71 (bs (z01 a0))] (z2y r) (z2z r)) (ih_parse_reader_chain_parse_reader_factor : ∀ (a0 : z00) (a2 : (List ByteArray)) (a3 : Int) (r : (z00 × z03)), z07 n a0 a2 a3 = some r → Cs Tryz.prog (GX X) 160 [xP 0 0, .fn (.func 174) [.box 0 0] [], xL (List.map z1d a2), xI a3] [oB 71 (bs (z01 a0))] (z0p r) (z0q r)) (ih_parse_reader_factor : ∀ (a0 : z00) (r : (z00 × z03)), z0e n a0 = some r → Cs Tryz.prog (GX X) 174 [xP 0 0] [oB 71 (bs (z01 a0))] (z2e r) (z2f r)) (ih_parse_reader_negated : ∀ (a0 : z00) (r : (z00 × z03)), z10 n a0 = some r → Cs Tryz.prog (GX X) 183 [xP 0 0] [oB 71 (bs (z01 a0))] (z2o r) (z2p r)) (ih_parse_reader_parens : ∀ (a0 : z00) (r : (z00 × z03)), z14 n a0 = some r → Cs Tryz.prog (GX X) 184 [xP 0 0] [oB 71 (bs (z01 a0))] (z2s r) (z2t r)) (a0 : z00) (a2 : (List ByteArray)) (a3 : Int) (r : (z00 × z03)) (h : z07 (n + 1) a0 a2 a3 = some r) : Cs Tryz.prog (GX X) 160 [xP 0 0, .fn (.func 174) [.box 0 0] [], xL (List.map z1d a2), xI a3] [oB 71 (bs (z01 a0))] (z0p r) (z0q r) := by
 refine fnT (cx := cx X) Tryz.f160 Tryz.call160 Tryz.func160 (by kernel_rfl) ?_
 rw [z07] at h
 obtain ⟨v1, k1, h⟩ := z06 h
 refine adv (ok X) 5 [.s (z2e v1) (z2f v1)] (pA (ih_parse_reader_factor _ _ k1) pT) (by kernel_rfl) ?_
 refine lp (ok X) (z1p (z13 n) (z08 n) (z0z n) (z07 n) (z0e n) (z10 n) (z14 n) a2 a3) (fun (x1 : ((List z0b) × Int × Int × Int × Int × Int × Int × Int × ByteArray × (List z03))) => ⟨32, 1, [(0, [xP 0 0]), (1, [.fn (.func 174) [.box 0 0] []]), (2, [xL (List.map z1d a2)]), (3, [xI a3]), (8, [xP 1 0]), (9, [xP 2 0])], [oB 71 (bs (z01 (z00.mk x1.1 x1.2.1 x1.2.2.1 x1.2.2.2.1 x1.2.2.2.2.1 x1.2.2.2.2.2.1))), oB 103 [.pv (.int .i64 0), .pv (.int .i64 0), .pv (.str (ByteArray.mk #[])), .emp], oB 103 (bs (z2j (z03.mk x1.2.2.2.2.2.2.1 x1.2.2.2.2.2.2.2.1 x1.2.2.2.2.2.2.2.2.1 x1.2.2.2.2.2.2.2.2.2)))]⟩) (fun (j1 : ((List z0b) × Int × Int × Int × Int × Int × Int × Int × ByteArray × (List z03))) => ⟨32, 1, [(8, [xP 1 0]), (9, [xP 2 0])], [oB 71 (bs (z01 (z00.mk j1.1 j1.2.1 j1.2.2.1 j1.2.2.2.1 j1.2.2.2.2.1 j1.2.2.2.2.2.1))), oB 103 [.pv (.int .i64 0), .pv (.int .i64 0), .pv (.str (ByteArray.mk #[])), .emp], oB 103 (bs (z2j (z03.mk j1.2.2.2.2.2.2.1 j1.2.2.2.2.2.2.2.1 j1.2.2.2.2.2.2.2.2.1 j1.2.2.2.2.2.2.2.2.2)))]⟩) z7k (v1.1.f_l, v1.1.f_end, v1.1.f_e, v1.1.f_at, v1.1.f_deep, v1.1.f_in, v1.2.Kind, v1.2.Num, v1.2.Name, v1.2.Kids) (fun _ => ⟨_, _, _, _, rfl⟩) h (by kernel_rfl) (fun x1 o h => ?_) (fun r' h => ?_) (fun j1 h => ?_)
 ·unfold z1p at h
  rcases iteE h with ⟨k2, h⟩ | ⟨k2, h⟩
  ·obtain ⟨v2, k3, h⟩ := z06 h
   refine adv (ok X) 11 [.b true, .s (z5l v2) (z5m v2)] (pA k2 (pA (z6q (X := X) k3) pT)) (by kernel_rfl) ?_
   rcases iteE h with ⟨k4, h⟩ | ⟨k4, h⟩
   ·obtain rfl := retE h
    exact fin (ok X) 2 [.b true] (pA k4 pT) (by kernel_rfl)
   ·obtain ⟨v3, k5, h⟩ := z06 h
    obtain rfl := retE h
    exact fin (ok X) 4 [.b false, .o [0, 1, 2, 3, 4, 5, 6, 7, 8], .s (z2e v3) (z2f v3), .bl (List.map z0t [(z03.mk x1.2.2.2.2.2.2.1 x1.2.2.2.2.2.2.2.1 x1.2.2.2.2.2.2.2.2.1 x1.2.2.2.2.2.2.2.2.2), v3.2])] (pA k4 (pA (ih_parse_reader_factor _ _ k5) (pA (blc (e := z0t) (x := (z03.mk x1.2.2.2.2.2.2.1 x1.2.2.2.2.2.2.2.1 x1.2.2.2.2.2.2.2.2.1 x1.2.2.2.2.2.2.2.2.2)) (z4i _).symm (blc (e := z0t) (x := v3.2) (z4i _).symm (bl0 z0t))) pT))) (by kernel_rfl)
  ·obtain rfl := retE h
   exact fin (ok X) 5 [.b false] (pA k2 pT) (by kernel_rfl)
 ·cases h
 ·obtain rfl := retE h
  exact fin (ok X) 3 [] pT (by kernel_rfl)

theorem zey {n : Nat} (ih_parse_reader_expr : ∀ (a0 : z00) (r : (z00 × z03)), z13 n a0 = some r → Cs Tryz.prog (GX X) 141 [xP 0 0] [oB 71 (bs (z01 a0))] (z1w r) (z1x r)) (ih_parse_reader_chain_parse_reader_term : ∀ (a0 : z00) (a2 : (List ByteArray)) (a3 : Int) (r : (z00 × z03)), z08 n a0 a2 a3 = some r → Cs Tryz.prog (GX X) 160 [xP 0 0, .fn (.func 161) [.box 0 0] [], xL (List.map z1d a2), xI a3] [oB 71 (bs (z01 a0))] (z0v r) (z0w r)) (ih_parse_reader_term : ∀ (a0 : z00) (r : (z00 × z03)), z0z n a0 = some r → Cs Tryz.prog (GX X) 161 [xP 0 0] [oB 71 (bs (z01 a0))] (z2y r) (z2z r)) (ih_parse_reader_chain_parse_reader_factor : ∀ (a0 : z00) (a2 : (List ByteArray)) (a3 : Int) (r : (z00 × z03)), z07 n a0 a2 a3 = some r → Cs Tryz.prog (GX X) 160 [xP 0 0, .fn (.func 174) [.box 0 0] [], xL (List.map z1d a2), xI a3] [oB 71 (bs (z01 a0))] (z0p r) (z0q r)) (ih_parse_reader_factor : ∀ (a0 : z00) (r : (z00 × z03)), z0e n a0 = some r → Cs Tryz.prog (GX X) 174 [xP 0 0] [oB 71 (bs (z01 a0))] (z2e r) (z2f r)) (ih_parse_reader_negated : ∀ (a0 : z00) (r : (z00 × z03)), z10 n a0 = some r → Cs Tryz.prog (GX X) 183 [xP 0 0] [oB 71 (bs (z01 a0))] (z2o r) (z2p r)) (ih_parse_reader_parens : ∀ (a0 : z00) (r : (z00 × z03)), z14 n a0 = some r → Cs Tryz.prog (GX X) 184 [xP 0 0] [oB 71 (bs (z01 a0))] (z2s r) (z2t r)) (a0 : z00) (r : (z00 × z03)) (h : z0e (n + 1) a0 = some r) : Cs Tryz.prog (GX X) 174 [xP 0 0] [oB 71 (bs (z01 a0))] (z2e r) (z2f r) := by
 refine fnT (cx := cx X) Tryz.f174 Tryz.call174 Tryz.func174 (by kernel_rfl) ?_
 rw [z0e] at h
 obtain ⟨v1, k1, h⟩ := z06 h
 refine adv (ok X) 6 [.s (z41 v1) (z42 a0 v1)] (pA (z4j (X := X) k1) pT) (by kernel_rfl) ?_
 rcases iteE h with ⟨k2, h⟩ | ⟨k2, h⟩
 ·obtain ⟨v2, k3, h⟩ := z06 h
  obtain rfl := retE h
  exact fin (ok X) 4 [.b true, .s (z2o v2) (z2p v2)] (pA k2 (pA (ih_parse_reader_negated _ _ k3) pT)) (by kernel_rfl)
 ·obtain ⟨v3, k4, h⟩ := z06 h
  refine adv (ok X) 3 [.b false, .s (z41 v3) (z42 a0 v3)] (pA k2 (pA (z4j (X := X) k4) pT)) (by kernel_rfl) ?_
  rcases iteE h with ⟨k5, h⟩ | ⟨k5, h⟩
  ·obtain ⟨v4, k6, h⟩ := z06 h
   obtain rfl := retE h
   exact fin (ok X) 4 [.b true, .s (z2s v4) (z2t v4)] (pA k5 (pA (ih_parse_reader_parens _ _ k6) pT)) (by kernel_rfl)
  ·obtain ⟨v5, k7, h⟩ := z06 h
   refine adv (ok X) 3 [.b false, .s (z82 v5) (z83 a0 v5)] (pA k5 (pA (zao (X := X) k7) pT)) (by kernel_rfl) ?_
   rcases iteE h with ⟨k8, h⟩ | ⟨k8, h⟩
   ·obtain ⟨v6, k9, h⟩ := z06 h
    obtain rfl := retE h
    exact fin (ok X) 4 [.b true, .s (z59 v6) (z5a v6)] (pA k8 (pA (z6h (X := X) k9) pT)) (by kernel_rfl)
   ·obtain ⟨v7, k10, h⟩ := z06 h
    obtain rfl := retE h
    exact fin (ok X) 6 [.b false, .s (z1f v7) (z1g v7)] (pA k8 (pA (z1k (X := X) k10) pT)) (by kernel_rfl)

theorem zed {n : Nat} (ih_parse_reader_expr : ∀ (a0 : z00) (r : (z00 × z03)), z13 n a0 = some r → Cs Tryz.prog (GX X) 141 [xP 0 0] [oB 71 (bs (z01 a0))] (z1w r) (z1x r)) (ih_parse_reader_chain_parse_reader_term : ∀ (a0 : z00) (a2 : (List ByteArray)) (a3 : Int) (r : (z00 × z03)), z08 n a0 a2 a3 = some r → Cs Tryz.prog (GX X) 160 [xP 0 0, .fn (.func 161) [.box 0 0] [], xL (List.map z1d a2), xI a3] [oB 71 (bs (z01 a0))] (z0v r) (z0w r)) (ih_parse_reader_term : ∀ (a0 : z00) (r : (z00 × z03)), z0z n a0 = some r → Cs Tryz.prog (GX X) 161 [xP 0 0] [oB 71 (bs (z01 a0))] (z2y r) (z2z r)) (ih_parse_reader_chain_parse_reader_factor : ∀ (a0 : z00) (a2 : (List ByteArray)) (a3 : Int) (r : (z00 × z03)), z07 n a0 a2 a3 = some r → Cs Tryz.prog (GX X) 160 [xP 0 0, .fn (.func 174) [.box 0 0] [], xL (List.map z1d a2), xI a3] [oB 71 (bs (z01 a0))] (z0p r) (z0q r)) (ih_parse_reader_factor : ∀ (a0 : z00) (r : (z00 × z03)), z0e n a0 = some r → Cs Tryz.prog (GX X) 174 [xP 0 0] [oB 71 (bs (z01 a0))] (z2e r) (z2f r)) (ih_parse_reader_negated : ∀ (a0 : z00) (r : (z00 × z03)), z10 n a0 = some r → Cs Tryz.prog (GX X) 183 [xP 0 0] [oB 71 (bs (z01 a0))] (z2o r) (z2p r)) (ih_parse_reader_parens : ∀ (a0 : z00) (r : (z00 × z03)), z14 n a0 = some r → Cs Tryz.prog (GX X) 184 [xP 0 0] [oB 71 (bs (z01 a0))] (z2s r) (z2t r)) (a0 : z00) (r : (z00 × z03)) (h : z10 (n + 1) a0 = some r) : Cs Tryz.prog (GX X) 183 [xP 0 0] [oB 71 (bs (z01 a0))] (z2o r) (z2p r) := by
 refine fnT (cx := cx X) Tryz.f183 Tryz.call183 Tryz.func183 (by kernel_rfl) ?_
 rw [z10] at h
 obtain ⟨v1, k1, h⟩ := z06 h
 refine adv (ok X) 5 [.s (z8f v1) (z8g v1)] (pA (zbb (X := X) k1) pT) (by kernel_rfl) ?_
 rcases iteE h with ⟨k2, h⟩ | ⟨k2, h⟩
 ·obtain rfl := retE h
  exact fin (ok X) 4 [.b true] (pA k2 pT) (by kernel_rfl)
 ·obtain ⟨v2, k3, h⟩ := z06 h
  obtain ⟨v3, k4, h⟩ := z06 h
  obtain rfl := retE h
  exact fin (ok X) 11 [.b false, .s (z0h v2) (z0i v2), .s (z2e v3) (z2f v3), .bl (List.map z0t [v3.2])] (pA k2 (pA (z0k (X := X) k3) (pA (ih_parse_reader_factor _ _ k4) (pA (blc (e := z0t) (x := v3.2) (z4i _).symm (bl0 z0t)) pT)))) (by kernel_rfl)

theorem zez {n : Nat} (ih_parse_reader_expr : ∀ (a0 : z00) (r : (z00 × z03)), z13 n a0 = some r → Cs Tryz.prog (GX X) 141 [xP 0 0] [oB 71 (bs (z01 a0))] (z1w r) (z1x r)) (ih_parse_reader_chain_parse_reader_term : ∀ (a0 : z00) (a2 : (List ByteArray)) (a3 : Int) (r : (z00 × z03)), z08 n a0 a2 a3 = some r → Cs Tryz.prog (GX X) 160 [xP 0 0, .fn (.func 161) [.box 0 0] [], xL (List.map z1d a2), xI a3] [oB 71 (bs (z01 a0))] (z0v r) (z0w r)) (ih_parse_reader_term : ∀ (a0 : z00) (r : (z00 × z03)), z0z n a0 = some r → Cs Tryz.prog (GX X) 161 [xP 0 0] [oB 71 (bs (z01 a0))] (z2y r) (z2z r)) (ih_parse_reader_chain_parse_reader_factor : ∀ (a0 : z00) (a2 : (List ByteArray)) (a3 : Int) (r : (z00 × z03)), z07 n a0 a2 a3 = some r → Cs Tryz.prog (GX X) 160 [xP 0 0, .fn (.func 174) [.box 0 0] [], xL (List.map z1d a2), xI a3] [oB 71 (bs (z01 a0))] (z0p r) (z0q r)) (ih_parse_reader_factor : ∀ (a0 : z00) (r : (z00 × z03)), z0e n a0 = some r → Cs Tryz.prog (GX X) 174 [xP 0 0] [oB 71 (bs (z01 a0))] (z2e r) (z2f r)) (ih_parse_reader_negated : ∀ (a0 : z00) (r : (z00 × z03)), z10 n a0 = some r → Cs Tryz.prog (GX X) 183 [xP 0 0] [oB 71 (bs (z01 a0))] (z2o r) (z2p r)) (ih_parse_reader_parens : ∀ (a0 : z00) (r : (z00 × z03)), z14 n a0 = some r → Cs Tryz.prog (GX X) 184 [xP 0 0] [oB 71 (bs (z01 a0))] (z2s r) (z2t r)) (a0 : z00) (r : (z00 × z03)) (h : z14 (n + 1) a0 = some r) : Cs Tryz.prog (GX X) 184 [xP 0 0] [oB 71 (bs (z01 a0))] (z2s r) (z2t r) := by
 refine fnT (cx := cx X) Tryz.f184 Tryz.call184 Tryz.func184 (by kernel_rfl) ?_
 rw [z14] at h
 obtain ⟨v1, k1, h⟩ := z06 h
 refine adv (ok X) 5 [.s (z8f v1) (z8g v1)] (pA (zbb (X := X) k1) pT) (by kernel_rfl) ?_
 rcases iteE h with ⟨k2, h⟩ | ⟨k2, h⟩
 ·obtain rfl := retE h
  exact fin (ok X) 4 [.b true] (pA k2 pT) (by kernel_rfl)
 ·obtain ⟨v2, k3, h⟩ := z06 h
  obtain ⟨v3, k4, h⟩ := z06 h
  obtain ⟨v4, k5, h⟩ := z06 h
  obtain rfl := retE h
  exact fin (ok X) 13 [.b false, .s (z0h v2) (z0i v2), .s (z1w v3) (z1x v3), .s (z0h v4) (z0i v4)] (pA k2 (pA (z0k (X := X) k3) (pA (ih_parse_reader_expr _ _ k4) (pA (z0k (X := X) k5) pT)))) (by kernel_rfl)

theorem zb5 : ∀ n : Nat, (∀ (a0 : z00) (r : (z00 × z03)), z13 n a0 = some r → Cs Tryz.prog (GX X) 141 [xP 0 0] [oB 71 (bs (z01 a0))] (z1w r) (z1x r)) ∧ (∀ (a0 : z00) (a2 : (List ByteArray)) (a3 : Int) (r : (z00 × z03)), z08 n a0 a2 a3 = some r → Cs Tryz.prog (GX X) 160 [xP 0 0, .fn (.func 161) [.box 0 0] [], xL (List.map z1d a2), xI a3] [oB 71 (bs (z01 a0))] (z0v r) (z0w r)) ∧ (∀ (a0 : z00) (r : (z00 × z03)), z0z n a0 = some r → Cs Tryz.prog (GX X) 161 [xP 0 0] [oB 71 (bs (z01 a0))] (z2y r) (z2z r)) ∧ (∀ (a0 : z00) (a2 : (List ByteArray)) (a3 : Int) (r : (z00 × z03)), z07 n a0 a2 a3 = some r → Cs Tryz.prog (GX X) 160 [xP 0 0, .fn (.func 174) [.box 0 0] [], xL (List.map z1d a2), xI a3] [oB 71 (bs (z01 a0))] (z0p r) (z0q r)) ∧ (∀ (a0 : z00) (r : (z00 × z03)), z0e n a0 = some r → Cs Tryz.prog (GX X) 174 [xP 0 0] [oB 71 (bs (z01 a0))] (z2e r) (z2f r)) ∧ (∀ (a0 : z00) (r : (z00 × z03)), z10 n a0 = some r → Cs Tryz.prog (GX X) 183 [xP 0 0] [oB 71 (bs (z01 a0))] (z2o r) (z2p r)) ∧ (∀ (a0 : z00) (r : (z00 × z03)), z14 n a0 = some r → Cs Tryz.prog (GX X) 184 [xP 0 0] [oB 71 (bs (z01 a0))] (z2s r) (z2t r))
 | 0 => ⟨(fun _ _ h => by rw [z13] at h; cases h), (fun _ _ _ _ h => by rw [z08] at h; cases h), (fun _ _ h => by rw [z0z] at h; cases h), (fun _ _ _ _ h => by rw [z07] at h; cases h), (fun _ _ h => by rw [z0e] at h; cases h), (fun _ _ h => by rw [z10] at h; cases h), (fun _ _ h => by rw [z14] at h; cases h)⟩
 | n + 1 => by
  have ih := zb5 n
  exact ⟨zgl ih.1 ih.2.1 ih.2.2.1 ih.2.2.2.1 ih.2.2.2.2.1 ih.2.2.2.2.2.1 ih.2.2.2.2.2.2, z8b ih.1 ih.2.1 ih.2.2.1 ih.2.2.2.1 ih.2.2.2.2.1 ih.2.2.2.2.2.1 ih.2.2.2.2.2.2, zgm ih.1 ih.2.1 ih.2.2.1 ih.2.2.2.1 ih.2.2.2.2.1 ih.2.2.2.2.2.1 ih.2.2.2.2.2.2, z7l ih.1 ih.2.1 ih.2.2.1 ih.2.2.2.1 ih.2.2.2.2.1 ih.2.2.2.2.2.1 ih.2.2.2.2.2.2, zey ih.1 ih.2.1 ih.2.2.1 ih.2.2.2.1 ih.2.2.2.2.1 ih.2.2.2.2.2.1 ih.2.2.2.2.2.2, zed ih.1 ih.2.1 ih.2.2.1 ih.2.2.2.1 ih.2.2.2.2.1 ih.2.2.2.2.2.1 ih.2.2.2.2.2.2, zez ih.1 ih.2.1 ih.2.2.1 ih.2.2.2.1 ih.2.2.2.2.1 ih.2.2.2.2.2.1 ih.2.2.2.2.2.2⟩

theorem z76 {a0 : z00} {r : (z00 × z03)} (h : z49 a0 = some r) : Cs Tryz.prog (GX X) 141 [xP 0 0] [oB 71 (bs (z01 a0))] (z1w r) (z1x r) := by
 obtain ⟨n, hn⟩ := unfE h
 exact (zb5 n).1 _ _ hn

theorem zgn {a0 : z00} {r : (z00 × z02)} (h : z5x a0 = some r) : Cs Tryz.prog (GX X) 118 [xP 0 0] [oB 71 (bs (z01 a0))] (zc4 r) (zc5 r) := by
 refine fnT (cx := cx X) Tryz.f118 Tryz.call118 Tryz.func118 (by kernel_rfl) ?_
 unfold z5x at h
 obtain ⟨v1, k1, h⟩ := z06 h
 obtain ⟨v2, k2, h⟩ := z06 h
 obtain ⟨v3, k3, h⟩ := z06 h
 obtain ⟨v4, k4, h⟩ := z06 h
 obtain ⟨v5, k5, h⟩ := z06 h
 obtain ⟨v6, k6, h⟩ := z06 h
 obtain ⟨v7, k7, h⟩ := z06 h
 obtain rfl := retE h
 exact fin (ok X) 19 [.s (z1f v1) (z1g v1), .s (z0h v2) (z0i v2), .s (z1f v3) (z1g v3), .s (z0h v4) (z0i v4), .s (z1w v5) (z1x v5), .s (z0h v6) (z0i v6), .s (z0h v7) (z0i v7)] (pA (z1k (X := X) k1) (pA (z0k (X := X) k2) (pA (z1k (X := X) k3) (pA (z0k (X := X) k4) (pA (z76 (X := X) k5) (pA (z0k (X := X) k6) (pA (z0k (X := X) k7) pT))))))) (by kernel_rfl)

theorem z92 {a0 : z00} {r : (z00 × z2n)} (h : z4a a0 = some r) : Cs Tryz.prog (GX X) 139 [xP 0 0] [oB 71 (bs (z01 a0))] (z73 r) (z74 r) := by
 refine fnT (cx := cx X) Tryz.f139 Tryz.call139 Tryz.func139 (by kernel_rfl) ?_
 unfold z4a at h
 obtain ⟨v1, k1, h⟩ := z06 h
 obtain ⟨v2, k2, h⟩ := z06 h
 obtain ⟨v3, k3, h⟩ := z06 h
 refine adv (ok X) 11 [.s (z0h v1) (z0i v1), .s (z1w v2) (z1x v2), .s (z5l v3) (z5m v3)] (pA (z0k (X := X) k1) (pA (z76 (X := X) k2) (pA (z6q (X := X) k3) pT))) (by kernel_rfl) ?_
 rcases iteE h with ⟨k4, h⟩ | ⟨k4, h⟩
 ·obtain ⟨v4, k5, h⟩ := z06 h
  obtain rfl := retE h
  exact fin (ok X) 6 [.b true, .s (z43 v4) (z44 v4)] (pA k4 (pA (z4k (X := X) k5) pT)) (by kernel_rfl)
 ·obtain ⟨v5, k6, h⟩ := z06 h
  obtain ⟨v6, k7, h⟩ := z06 h
  obtain rfl := retE h
  exact fin (ok X) 11 [.b false, .s (z1w v5) (z1x v5), .s (z0h v6) (z0i v6)] (pA k4 (pA (z76 (X := X) k6) (pA (z0k (X := X) k7) pT))) (by kernel_rfl)

theorem zf0 {a0 : z00} {r : (z00 × z02)} (h : z52 a0 = some r) : Cs Tryz.prog (GX X) 120 [xP 0 0] [oB 71 (bs (z01 a0))] (zb0 r) (zb1 r) := by
 refine fnT (cx := cx X) Tryz.f120 Tryz.call120 Tryz.func120 (by kernel_rfl) ?_
 unfold z52 at h
 obtain ⟨v1, k1, h⟩ := z06 h
 obtain ⟨v2, k2, h⟩ := z06 h
 obtain rfl := retE h
 exact fin (ok X) 9 [.s (z73 v1) (z74 v1), .s (z0h v2) (z0i v2)] (pA (z92 (X := X) k1) (pA (z0k (X := X) k2) pT)) (by kernel_rfl)

theorem zfo {a0 : z00} {r : (z00 × z02)} (h : z5f a0 = some r) : Cs Tryz.prog (GX X) 121 [xP 0 0] [oB 71 (bs (z01 a0))] (zb9 r) (zba r) := by
 refine fnT (cx := cx X) Tryz.f121 Tryz.call121 Tryz.func121 (by kernel_rfl) ?_
 unfold z5f at h
 obtain ⟨v1, k1, h⟩ := z06 h
 obtain ⟨v2, k2, h⟩ := z06 h
 obtain rfl := retE h
 exact fin (ok X) 9 [.s (z1f v1) (z1g v1), .s (z0h v2) (z0i v2)] (pA (z1k (X := X) k1) (pA (z0k (X := X) k2) pT)) (by kernel_rfl)

theorem zf1 {a0 : z00} {r : (z00 × z02)} (h : z54 a0 = some r) : Cs Tryz.prog (GX X) 122 [xP 0 0] [oB 71 (bs (z01 a0))] (zb2 r) (zb3 r) := by
 refine fnT (cx := cx X) Tryz.f122 Tryz.call122 Tryz.func122 (by kernel_rfl) ?_
 unfold z54 at h
 obtain ⟨v1, k1, h⟩ := z06 h
 obtain ⟨v2, k2, h⟩ := z06 h
 obtain ⟨v3, k3, h⟩ := z06 h
 obtain ⟨v4, k4, h⟩ := z06 h
 obtain rfl := retE h
 exact fin (ok X) 13 [.s (z1f v1) (z1g v1), .s (z0h v2) (z0i v2), .s (z1w v3) (z1x v3), .s (z0h v4) (z0i v4)] (pA (z1k (X := X) k1) (pA (z0k (X := X) k2) (pA (z76 (X := X) k3) (pA (z0k (X := X) k4) pT)))) (by kernel_rfl)

theorem zfp {n : Nat} (ih_parse_reader_stmts : ∀ (a0 : z00) (r : (z00 × (List z02))), z0x n a0 = some r → Cs Tryz.prog (GX X) 61 [xP 0 0] [oB 71 (bs (z01 a0))] (z28 r) (z29 r)) (ih_parse_reader_stmt : ∀ (a0 : z00) (r : (z00 × z02 × Bool)), z0j n a0 = some r → Cs Tryz.prog (GX X) 98 [xP 0 0] [oB 71 (bs (z01 a0))] (z3h r) (z3i r)) (ih_parse_reader_conditional : ∀ (a0 : z00) (r : (z00 × z02)), z0r n a0 = some r → Cs Tryz.prog (GX X) 116 [xP 0 0] [oB 71 (bs (z01 a0))] (z1z r) (z22 r)) (ih_parse_reader_loop : ∀ (a0 : z00) (r : (z00 × z02)), z1h n a0 = some r → Cs Tryz.prog (GX X) 117 [xP 0 0] [oB 71 (bs (z01 a0))] (z3j r) (z3k r)) (ih_parse_reader_recv : ∀ (a0 : z00) (r : (z00 × z02)), z1b n a0 = some r → Cs Tryz.prog (GX X) 119 [xP 0 0] [oB 71 (bs (z01 a0))] (z30 r) (z31 r)) (ih_parse_reader_block : ∀ (a0 : z00) (r : (z00 × (List z02))), z0f n a0 = some r → Cs Tryz.prog (GX X) 140 [xP 0 0] [oB 71 (bs (z01 a0))] (z2a r) (z2b r)) (ih_parse_reader_arm : ∀ (a0 : z00) (r : (z00 × z0n)), z12 n a0 = some r → Cs Tryz.prog (GX X) 142 [xP 0 0] [oB 71 (bs (z01 a0))] (z3b r) (z3c r)) (a0 : z00) (r : (z00 × (List z02))) (h : z0x (n + 1) a0 = some r) : Cs Tryz.prog (GX X) 61 [xP 0 0] [oB 71 (bs (z01 a0))] (z28 r) (z29 r) := by
 refine fnT (cx := cx X) Tryz.f61 Tryz.call61 Tryz.func61 (by kernel_rfl) ?_
 rw [z0x] at h
 refine adv (ok X) 4 [] pT (by kernel_rfl) ?_
 refine lp (ok X) (z6e (z0x n) (z0j n) (z0r n) (z1h n) (z1b n) (z0f n) (z12 n)) (fun (x1 : ((List z0b) × Int × Int × Int × Int × Int × (List z02))) => ⟨18, 1, [(0, [xP 0 0]), (3, [xR 1])], [oB 71 (bs (z01 (z00.mk x1.1 x1.2.1 x1.2.2.1 x1.2.2.2.1 x1.2.2.2.2.1 x1.2.2.2.2.2.1))), oR true 108 19 (List.map z0u x1.2.2.2.2.2.2)]⟩) (fun (j1 : Unit) => ⟨18, 1, [], [none]⟩) zfn (a0.f_l, a0.f_end, a0.f_e, a0.f_at, a0.f_deep, a0.f_in, []) (fun _ => ⟨_, _, _, _, rfl⟩) h (by kernel_rfl) (fun x1 o h => ?_) (fun r' h => ?_) (fun j1 h => ?_)
 ·unfold z6e at h
  obtain ⟨v1, k1, h⟩ := z06 h
  refine adv (ok X) 6 [.s (z3h v1) (z3i v1)] (pA (ih_parse_reader_stmt _ _ k1) pT) (by kernel_rfl) ?_
  rcases iteE h with ⟨k2, h⟩ | ⟨k2, h⟩
  ·obtain rfl := retE h
   exact fin (ok X) 4 [.b true] (pA k2 pT) (by kernel_rfl)
  ·obtain ⟨v2, k3, h⟩ := z06 h
   obtain rfl := retE h
   exact fin (ok X) 4 [.b false, .bl (List.map z0u [v1.2.1]), .l (List.map z0u v2)] (pA k2 (pA (blc (e := z0u) (x := v1.2.1) (z3a _).symm (bl0 z0u)) (pA (apm (L := x1.2.2.2.2.2.2) (M := [v1.2.1]) zfv k3) pT))) (by kernel_rfl)
 ·obtain rfl := retE h
  kernel_rfl
 ·cases h

theorem zgo {n : Nat} (ih_parse_reader_stmts : ∀ (a0 : z00) (r : (z00 × (List z02))), z0x n a0 = some r → Cs Tryz.prog (GX X) 61 [xP 0 0] [oB 71 (bs (z01 a0))] (z28 r) (z29 r)) (ih_parse_reader_stmt : ∀ (a0 : z00) (r : (z00 × z02 × Bool)), z0j n a0 = some r → Cs Tryz.prog (GX X) 98 [xP 0 0] [oB 71 (bs (z01 a0))] (z3h r) (z3i r)) (ih_parse_reader_conditional : ∀ (a0 : z00) (r : (z00 × z02)), z0r n a0 = some r → Cs Tryz.prog (GX X) 116 [xP 0 0] [oB 71 (bs (z01 a0))] (z1z r) (z22 r)) (ih_parse_reader_loop : ∀ (a0 : z00) (r : (z00 × z02)), z1h n a0 = some r → Cs Tryz.prog (GX X) 117 [xP 0 0] [oB 71 (bs (z01 a0))] (z3j r) (z3k r)) (ih_parse_reader_recv : ∀ (a0 : z00) (r : (z00 × z02)), z1b n a0 = some r → Cs Tryz.prog (GX X) 119 [xP 0 0] [oB 71 (bs (z01 a0))] (z30 r) (z31 r)) (ih_parse_reader_block : ∀ (a0 : z00) (r : (z00 × (List z02))), z0f n a0 = some r → Cs Tryz.prog (GX X) 140 [xP 0 0] [oB 71 (bs (z01 a0))] (z2a r) (z2b r)) (ih_parse_reader_arm : ∀ (a0 : z00) (r : (z00 × z0n)), z12 n a0 = some r → Cs Tryz.prog (GX X) 142 [xP 0 0] [oB 71 (bs (z01 a0))] (z3b r) (z3c r)) (a0 : z00) (r : (z00 × z02 × Bool)) (h : z0j (n + 1) a0 = some r) : Cs Tryz.prog (GX X) 98 [xP 0 0] [oB 71 (bs (z01 a0))] (z3h r) (z3i r) := by
 refine fnT (cx := cx X) Tryz.f98 Tryz.call98 Tryz.func98 (by kernel_rfl) ?_
 rw [z0j] at h
 obtain ⟨v1, k1, h⟩ := z06 h
 refine adv (ok X) 6 [.s (z1u v1) (z1v v1)] (pA (z27 (X := X) k1) pT) (by kernel_rfl) ?_
 rcases iteE h with ⟨k2, h⟩ | ⟨k2, h⟩
 ·obtain ⟨v2, k3, h⟩ := z06 h
  obtain rfl := retE h
  exact fin (ok X) 4 [.b true, .s (z1z v2) (z22 v2)] (pA k2 (pA (ih_parse_reader_conditional _ _ k3) pT)) (by kernel_rfl)
 ·obtain ⟨v3, k4, h⟩ := z06 h
  refine adv (ok X) 3 [.b false, .s (z1u v3) (z1v v3)] (pA k2 (pA (z27 (X := X) k4) pT)) (by kernel_rfl) ?_
  rcases iteE h with ⟨k5, h⟩ | ⟨k5, h⟩
  ·obtain ⟨v4, k6, h⟩ := z06 h
   obtain rfl := retE h
   exact fin (ok X) 4 [.b true, .s (z3j v4) (z3k v4)] (pA k5 (pA (ih_parse_reader_loop _ _ k6) pT)) (by kernel_rfl)
  ·obtain ⟨v5, k7, h⟩ := z06 h
   refine adv (ok X) 3 [.b false, .s (z1u v5) (z1v v5)] (pA k5 (pA (z27 (X := X) k7) pT)) (by kernel_rfl) ?_
   rcases iteE h with ⟨k8, h⟩ | ⟨k8, h⟩
   ·obtain ⟨v6, k9, h⟩ := z06 h
    obtain rfl := retE h
    exact fin (ok X) 4 [.b true, .s (zc4 v6) (zc5 v6)] (pA k8 (pA (zgn (X := X) k9) pT)) (by kernel_rfl)
   ·obtain ⟨v7, k10, h⟩ := z06 h
    refine adv (ok X) 3 [.b false, .s (z1u v7) (z1v v7)] (pA k8 (pA (z27 (X := X) k10) pT)) (by kernel_rfl) ?_
    rcases iteE h with ⟨k11, h⟩ | ⟨k11, h⟩
    ·obtain ⟨v8, k12, h⟩ := z06 h
     obtain rfl := retE h
     exact fin (ok X) 4 [.b true, .s (z30 v8) (z31 v8)] (pA k11 (pA (ih_parse_reader_recv _ _ k12) pT)) (by kernel_rfl)
    ·obtain ⟨v9, k13, h⟩ := z06 h
     refine adv (ok X) 3 [.b false, .s (z1u v9) (z1v v9)] (pA k11 (pA (z27 (X := X) k13) pT)) (by kernel_rfl) ?_
     rcases iteE h with ⟨k14, h⟩ | ⟨k14, h⟩
     ·obtain ⟨v10, k15, h⟩ := z06 h
      obtain rfl := retE h
      exact fin (ok X) 4 [.b true, .s (zb0 v10) (zb1 v10)] (pA k14 (pA (zf0 (X := X) k15) pT)) (by kernel_rfl)
     ·obtain ⟨v11, k16, h⟩ := z06 h
      refine adv (ok X) 3 [.b false, .s (z1u v11) (z1v v11)] (pA k14 (pA (z27 (X := X) k16) pT)) (by kernel_rfl) ?_
      rcases iteE h with ⟨k17, h⟩ | ⟨k17, h⟩
      ·obtain ⟨v12, k18, h⟩ := z06 h
       obtain rfl := retE h
       exact fin (ok X) 4 [.b true, .s (zb9 v12) (zba v12)] (pA k17 (pA (zfo (X := X) k18) pT)) (by kernel_rfl)
      ·obtain ⟨v13, k19, h⟩ := z06 h
       refine adv (ok X) 3 [.b false, .s (z82 v13) (z83 v11.1 v13)] (pA k17 (pA (zao (X := X) k19) pT)) (by kernel_rfl) ?_
       rcases iteE h with ⟨k20, h⟩ | ⟨k20, h⟩
       ·obtain ⟨v14, k21, h⟩ := z06 h
        obtain rfl := retE h
        exact fin (ok X) 4 [.b true, .s (zb2 v14) (zb3 v14)] (pA k20 (pA (zf1 (X := X) k21) pT)) (by kernel_rfl)
       ·obtain rfl := retE h
        exact fin (ok X) 6 [.b false] (pA k20 pT) (by kernel_rfl)

theorem zcd {n : Nat} (ih_parse_reader_stmts : ∀ (a0 : z00) (r : (z00 × (List z02))), z0x n a0 = some r → Cs Tryz.prog (GX X) 61 [xP 0 0] [oB 71 (bs (z01 a0))] (z28 r) (z29 r)) (ih_parse_reader_stmt : ∀ (a0 : z00) (r : (z00 × z02 × Bool)), z0j n a0 = some r → Cs Tryz.prog (GX X) 98 [xP 0 0] [oB 71 (bs (z01 a0))] (z3h r) (z3i r)) (ih_parse_reader_conditional : ∀ (a0 : z00) (r : (z00 × z02)), z0r n a0 = some r → Cs Tryz.prog (GX X) 116 [xP 0 0] [oB 71 (bs (z01 a0))] (z1z r) (z22 r)) (ih_parse_reader_loop : ∀ (a0 : z00) (r : (z00 × z02)), z1h n a0 = some r → Cs Tryz.prog (GX X) 117 [xP 0 0] [oB 71 (bs (z01 a0))] (z3j r) (z3k r)) (ih_parse_reader_recv : ∀ (a0 : z00) (r : (z00 × z02)), z1b n a0 = some r → Cs Tryz.prog (GX X) 119 [xP 0 0] [oB 71 (bs (z01 a0))] (z30 r) (z31 r)) (ih_parse_reader_block : ∀ (a0 : z00) (r : (z00 × (List z02))), z0f n a0 = some r → Cs Tryz.prog (GX X) 140 [xP 0 0] [oB 71 (bs (z01 a0))] (z2a r) (z2b r)) (ih_parse_reader_arm : ∀ (a0 : z00) (r : (z00 × z0n)), z12 n a0 = some r → Cs Tryz.prog (GX X) 142 [xP 0 0] [oB 71 (bs (z01 a0))] (z3b r) (z3c r)) (a0 : z00) (r : (z00 × z02)) (h : z0r (n + 1) a0 = some r) : Cs Tryz.prog (GX X) 116 [xP 0 0] [oB 71 (bs (z01 a0))] (z1z r) (z22 r) := by
 refine fnT (cx := cx X) Tryz.f116 Tryz.call116 Tryz.func116 (by kernel_rfl) ?_
 rw [z0r] at h
 obtain ⟨v1, k1, h⟩ := z06 h
 obtain ⟨v2, k2, h⟩ := z06 h
 obtain ⟨v3, k3, h⟩ := z06 h
 refine adv (ok X) 9 [.s (z73 v1) (z74 v1), .s (z2a v2) (z2b v2), .s (z1u v3) (z1v v3)] (pA (z92 (X := X) k1) (pA (ih_parse_reader_block _ _ k2) (pA (z27 (X := X) k3) pT))) (by kernel_rfl) ?_
 rcases iteE h with ⟨k4, h⟩ | ⟨k4, h⟩
 ·obtain ⟨v4, k5, h⟩ := z06 h
  obtain rfl := retE h
  exact fin (ok X) 5 [.b true, .s (z2a v4) (z2b v4)] (pA k4 (pA (ih_parse_reader_block _ _ k5) pT)) (by kernel_rfl)
 ·obtain rfl := retE h
  exact fin (ok X) 5 [.b false] (pA k4 pT) (by kernel_rfl)

theorem zgp {n : Nat} (ih_parse_reader_stmts : ∀ (a0 : z00) (r : (z00 × (List z02))), z0x n a0 = some r → Cs Tryz.prog (GX X) 61 [xP 0 0] [oB 71 (bs (z01 a0))] (z28 r) (z29 r)) (ih_parse_reader_stmt : ∀ (a0 : z00) (r : (z00 × z02 × Bool)), z0j n a0 = some r → Cs Tryz.prog (GX X) 98 [xP 0 0] [oB 71 (bs (z01 a0))] (z3h r) (z3i r)) (ih_parse_reader_conditional : ∀ (a0 : z00) (r : (z00 × z02)), z0r n a0 = some r → Cs Tryz.prog (GX X) 116 [xP 0 0] [oB 71 (bs (z01 a0))] (z1z r) (z22 r)) (ih_parse_reader_loop : ∀ (a0 : z00) (r : (z00 × z02)), z1h n a0 = some r → Cs Tryz.prog (GX X) 117 [xP 0 0] [oB 71 (bs (z01 a0))] (z3j r) (z3k r)) (ih_parse_reader_recv : ∀ (a0 : z00) (r : (z00 × z02)), z1b n a0 = some r → Cs Tryz.prog (GX X) 119 [xP 0 0] [oB 71 (bs (z01 a0))] (z30 r) (z31 r)) (ih_parse_reader_block : ∀ (a0 : z00) (r : (z00 × (List z02))), z0f n a0 = some r → Cs Tryz.prog (GX X) 140 [xP 0 0] [oB 71 (bs (z01 a0))] (z2a r) (z2b r)) (ih_parse_reader_arm : ∀ (a0 : z00) (r : (z00 × z0n)), z12 n a0 = some r → Cs Tryz.prog (GX X) 142 [xP 0 0] [oB 71 (bs (z01 a0))] (z3b r) (z3c r)) (a0 : z00) (r : (z00 × z02)) (h : z1h (n + 1) a0 = some r) : Cs Tryz.prog (GX X) 117 [xP 0 0] [oB 71 (bs (z01 a0))] (z3j r) (z3k r) := by
 refine fnT (cx := cx X) Tryz.f117 Tryz.call117 Tryz.func117 (by kernel_rfl) ?_
 rw [z1h] at h
 obtain ⟨v1, k1, h⟩ := z06 h
 obtain ⟨v2, k2, h⟩ := z06 h
 obtain rfl := retE h
 exact fin (ok X) 9 [.s (z73 v1) (z74 v1), .s (z2a v2) (z2b v2)] (pA (z92 (X := X) k1) (pA (ih_parse_reader_block _ _ k2) pT)) (by kernel_rfl)

theorem zgq {n : Nat} (ih_parse_reader_stmts : ∀ (a0 : z00) (r : (z00 × (List z02))), z0x n a0 = some r → Cs Tryz.prog (GX X) 61 [xP 0 0] [oB 71 (bs (z01 a0))] (z28 r) (z29 r)) (ih_parse_reader_stmt : ∀ (a0 : z00) (r : (z00 × z02 × Bool)), z0j n a0 = some r → Cs Tryz.prog (GX X) 98 [xP 0 0] [oB 71 (bs (z01 a0))] (z3h r) (z3i r)) (ih_parse_reader_conditional : ∀ (a0 : z00) (r : (z00 × z02)), z0r n a0 = some r → Cs Tryz.prog (GX X) 116 [xP 0 0] [oB 71 (bs (z01 a0))] (z1z r) (z22 r)) (ih_parse_reader_loop : ∀ (a0 : z00) (r : (z00 × z02)), z1h n a0 = some r → Cs Tryz.prog (GX X) 117 [xP 0 0] [oB 71 (bs (z01 a0))] (z3j r) (z3k r)) (ih_parse_reader_recv : ∀ (a0 : z00) (r : (z00 × z02)), z1b n a0 = some r → Cs Tryz.prog (GX X) 119 [xP 0 0] [oB 71 (bs (z01 a0))] (z30 r) (z31 r)) (ih_parse_reader_block : ∀ (a0 : z00) (r : (z00 × (List z02))), z0f n a0 = some r → Cs Tryz.prog (GX X) 140 [xP 0 0] [oB 71 (bs (z01 a0))] (z2a r) (z2b r)) (ih_parse_reader_arm : ∀ (a0 : z00) (r : (z00 × z0n)), z12 n a0 = some r → Cs Tryz.prog (GX X) 142 [xP 0 0] [oB 71 (bs (z01 a0))] (z3b r) (z3c r)) (a0 : z00) (r : (z00 × z02)) (h : z1b (n + 1) a0 = some r) : Cs Tryz.prog (GX X) 119 [xP 0 0] [oB 71 (bs (z01 a0))] (z30 r) (z31 r) := by
 refine fnT (cx := cx X) Tryz.f119 Tryz.call119 Tryz.func119 (by kernel_rfl) ?_
 rw [z1b] at h
 obtain ⟨v1, k1, h⟩ := z06 h
 obtain ⟨v2, k2, h⟩ := z06 h
 obtain ⟨v3, k3, h⟩ := z06 h
 obtain ⟨v4, k4, h⟩ := z06 h
 refine adv (ok X) 9 [.s (z1f v1) (z1g v1), .s (z0h v2) (z0i v2), .o [0, 1, 2, 3, 4, 5, 6, 7], .s (z3b v3) (z3c v3), .bl (List.map z1q [v3.2]), .l (List.map z1q v4)] (pA (z1k (X := X) k1) (pA (z0k (X := X) k2) (pA (ih_parse_reader_arm _ _ k3) (pA (blc (e := z1q) (x := v3.2) (z96 _).symm (bl0 z1q)) (pA (apm (L := []) (M := [v3.2]) zdo k4) pT))))) (by kernel_rfl) ?_
 refine lp (ok X) (z4w (z0x n) (z0j n) (z0r n) (z1h n) (z1b n) (z0f n) (z12 n)) (fun (x1 : ((List z0b) × Int × Int × Int × Int × Int × (List z0n))) => ⟨36, 1, [(0, [xP 0 0]), (2, [xP 1 0]), (3, [xP 2 0])], [oB 71 (bs (z01 (z00.mk x1.1 x1.2.1 x1.2.2.1 x1.2.2.2.1 x1.2.2.2.2.1 x1.2.2.2.2.2.1))), oB 108 [.pv (.int .i64 0), .pv (.str (ByteArray.mk #[])), .pv (.str (ByteArray.mk #[])), .pv (.int .i64 0), .pv (.int .i64 0), .pv (.str (ByteArray.mk #[])), .emp, .pv (.int .i64 0), .pv (.int .i64 0), .pv (.int .i64 0), .pv (.str (ByteArray.mk #[])), .emp, .pv (.int .i64 0), .pv (.int .i64 0), .pv (.str (ByteArray.mk #[])), .emp, .emp, .emp, .emp], oB 108 [.pv (.int .i64 5), .pv (.str v1.2), .pv (.str (ByteArray.mk #[])), .pv (.int .i64 0), .pv (.int .i64 0), .pv (.str (ByteArray.mk #[])), .emp, .pv (.int .i64 0), .pv (.int .i64 0), .pv (.int .i64 0), .pv (.str (ByteArray.mk #[])), .emp, .pv (.int .i64 0), .pv (.int .i64 0), .pv (.str (ByteArray.mk #[])), .emp, .emp, .emp, .row 3], oR true 156 3 (List.map z1q x1.2.2.2.2.2.2)]⟩) (fun (j1 : ((List z0b) × Int × Int × Int × Int × Int × (List z0n))) => ⟨36, 1, [(0, [xP 0 0]), (2, [xP 1 0]), (3, [xP 2 0])], [oB 71 (bs (z01 (z00.mk j1.1 j1.2.1 j1.2.2.1 j1.2.2.2.1 j1.2.2.2.2.1 j1.2.2.2.2.2.1))), oB 108 [.pv (.int .i64 0), .pv (.str (ByteArray.mk #[])), .pv (.str (ByteArray.mk #[])), .pv (.int .i64 0), .pv (.int .i64 0), .pv (.str (ByteArray.mk #[])), .emp, .pv (.int .i64 0), .pv (.int .i64 0), .pv (.int .i64 0), .pv (.str (ByteArray.mk #[])), .emp, .pv (.int .i64 0), .pv (.int .i64 0), .pv (.str (ByteArray.mk #[])), .emp, .emp, .emp, .emp], oB 108 [.pv (.int .i64 5), .pv (.str v1.2), .pv (.str (ByteArray.mk #[])), .pv (.int .i64 0), .pv (.int .i64 0), .pv (.str (ByteArray.mk #[])), .emp, .pv (.int .i64 0), .pv (.int .i64 0), .pv (.int .i64 0), .pv (.str (ByteArray.mk #[])), .emp, .pv (.int .i64 0), .pv (.int .i64 0), .pv (.str (ByteArray.mk #[])), .emp, .emp, .emp, .row 3], oR true 156 3 (List.map z1q j1.2.2.2.2.2.2)]⟩) zgh (v3.1.f_l, v3.1.f_end, v3.1.f_e, v3.1.f_at, v3.1.f_deep, v3.1.f_in, v4) (fun _ => ⟨_, _, _, _, rfl⟩) h (by kernel_rfl) (fun x1 o h => ?_) (fun r' h => ?_) (fun j1 h => ?_)
 ·unfold z4w at h
  refine adv (ok X) 2 [] pT (by kernel_rfl) ?_
  refine jn (ok X) 1 (fun (j2 : Bool) => ⟨36, 1, [(0, [xP 0 0]), (2, [xP 1 0]), (3, [xP 2 0]), (25, [xB j2])], [oB 71 (bs (z01 (z00.mk x1.1 x1.2.1 x1.2.2.1 x1.2.2.2.1 x1.2.2.2.2.1 x1.2.2.2.2.2.1))), oB 108 [.pv (.int .i64 0), .pv (.str (ByteArray.mk #[])), .pv (.str (ByteArray.mk #[])), .pv (.int .i64 0), .pv (.int .i64 0), .pv (.str (ByteArray.mk #[])), .emp, .pv (.int .i64 0), .pv (.int .i64 0), .pv (.int .i64 0), .pv (.str (ByteArray.mk #[])), .emp, .pv (.int .i64 0), .pv (.int .i64 0), .pv (.str (ByteArray.mk #[])), .emp, .emp, .emp, .emp], oB 108 [.pv (.int .i64 5), .pv (.str v1.2), .pv (.str (ByteArray.mk #[])), .pv (.int .i64 0), .pv (.int .i64 0), .pv (.str (ByteArray.mk #[])), .emp, .pv (.int .i64 0), .pv (.int .i64 0), .pv (.int .i64 0), .pv (.str (ByteArray.mk #[])), .emp, .pv (.int .i64 0), .pv (.int .i64 0), .pv (.str (ByteArray.mk #[])), .emp, .emp, .emp, .row 3], oR true 156 3 (List.map z1q x1.2.2.2.2.2.2)]⟩) h (fun j2 h => ?_) (fun j2 h => ?_)
  ·rcases iteE h with ⟨k5, h⟩ | ⟨k5, h⟩
   ·obtain ⟨v5, k6, h⟩ := z06 h
    obtain rfl := retE h
    exact fin (ok X) 1 [.b true, .b true, .s (z41 v5) (z42 (z00.mk x1.1 x1.2.1 x1.2.2.1 x1.2.2.2.1 x1.2.2.2.2.1 x1.2.2.2.2.2.1) v5), .b true, .b true] (pA k5 (pA k5 (pA (z4j (X := X) k6) (pA k5 (pA k5 pT))))) (by kernel_rfl)
   ·obtain rfl := retE h
    exact fin (ok X) 1 (bF 4 []) (pR 4 k5 pT) (by kernel_rfl)
  ·rcases iteE h with ⟨k7, h⟩ | ⟨k7, h⟩
   ·obtain ⟨v6, k8, h⟩ := z06 h
    obtain ⟨v7, k9, h⟩ := z06 h
    obtain rfl := retE h
    exact fin (ok X) 5 [.b true, .o [0, 1, 2, 3, 4, 5, 6, 7], .s (z3b v6) (z3c v6), .bl (List.map z1q [v6.2]), .l (List.map z1q v7)] (pA k7 (pA (ih_parse_reader_arm _ _ k8) (pA (blc (e := z1q) (x := v6.2) (z96 _).symm (bl0 z1q)) (pA (apm (L := x1.2.2.2.2.2.2) (M := [v6.2]) zdo k9) pT)))) (by kernel_rfl)
   ·obtain rfl := retE h
    exact fin (ok X) 2 [.b false] (pA k7 pT) (by kernel_rfl)
 ·cases h
 ·obtain ⟨v8, k10, h⟩ := z06 h
  obtain rfl := retE h
  exact fin (ok X) 5 [.s (z0h v8) (z0i v8)] (pA (z0k (X := X) k10) pT) (by kernel_rfl)

theorem zfq {n : Nat} (ih_parse_reader_stmts : ∀ (a0 : z00) (r : (z00 × (List z02))), z0x n a0 = some r → Cs Tryz.prog (GX X) 61 [xP 0 0] [oB 71 (bs (z01 a0))] (z28 r) (z29 r)) (ih_parse_reader_stmt : ∀ (a0 : z00) (r : (z00 × z02 × Bool)), z0j n a0 = some r → Cs Tryz.prog (GX X) 98 [xP 0 0] [oB 71 (bs (z01 a0))] (z3h r) (z3i r)) (ih_parse_reader_conditional : ∀ (a0 : z00) (r : (z00 × z02)), z0r n a0 = some r → Cs Tryz.prog (GX X) 116 [xP 0 0] [oB 71 (bs (z01 a0))] (z1z r) (z22 r)) (ih_parse_reader_loop : ∀ (a0 : z00) (r : (z00 × z02)), z1h n a0 = some r → Cs Tryz.prog (GX X) 117 [xP 0 0] [oB 71 (bs (z01 a0))] (z3j r) (z3k r)) (ih_parse_reader_recv : ∀ (a0 : z00) (r : (z00 × z02)), z1b n a0 = some r → Cs Tryz.prog (GX X) 119 [xP 0 0] [oB 71 (bs (z01 a0))] (z30 r) (z31 r)) (ih_parse_reader_block : ∀ (a0 : z00) (r : (z00 × (List z02))), z0f n a0 = some r → Cs Tryz.prog (GX X) 140 [xP 0 0] [oB 71 (bs (z01 a0))] (z2a r) (z2b r)) (ih_parse_reader_arm : ∀ (a0 : z00) (r : (z00 × z0n)), z12 n a0 = some r → Cs Tryz.prog (GX X) 142 [xP 0 0] [oB 71 (bs (z01 a0))] (z3b r) (z3c r)) (a0 : z00) (r : (z00 × (List z02))) (h : z0f (n + 1) a0 = some r) : Cs Tryz.prog (GX X) 140 [xP 0 0] [oB 71 (bs (z01 a0))] (z2a r) (z2b r) := by
 refine fnT (cx := cx X) Tryz.f140 Tryz.call140 Tryz.func140 (by kernel_rfl) ?_
 rw [z0f] at h
 refine adv (ok X) 4 [] pT (by kernel_rfl) ?_
 refine jn (ok X) 1 (fun (j1 : Bool) => ⟨36, 1, [(0, [xP 0 0]), (12, [xB j1])], [oB 71 (bs (z01 a0))]⟩) h (fun j1 h => ?_) (fun j1 h => ?_)
 ·obtain ⟨v1, k1, h⟩ := z06 h
  rcases iteE h with ⟨k2, h⟩ | ⟨k2, h⟩
  ·obtain rfl := retE h
   exact fin (ok X) 1 (.s (z41 v1) (z42 a0 v1) :: bT 6 []) (pA (z4j (X := X) k1) (pR 6 k2 pT)) (by kernel_rfl)
  ·obtain rfl := retE h
   exact fin (ok X) 1 (.s (z41 v1) (z42 a0 v1) :: bF 6 []) (pA (z4j (X := X) k1) (pR 6 k2 pT)) (by kernel_rfl)
 ·rcases iteE h with ⟨k3, h⟩ | ⟨k3, h⟩
  ·obtain ⟨v2, k4, h⟩ := z06 h
   obtain rfl := retE h
   exact fin (ok X) 6 [.b true, .s (z43 v2) (z44 v2)] (pA k3 (pA (z4k (X := X) k4) pT)) (by kernel_rfl)
  ·obtain ⟨v3, k5, h⟩ := z06 h
   obtain ⟨v4, k6, h⟩ := z06 h
   obtain ⟨v5, k7, h⟩ := z06 h
   obtain rfl := retE h
   exact fin (ok X) 15 [.b false, .s (z0h v3) (z0i v3), .s (z28 v4) (z29 v4), .s (z0h v5) (z0i v5)] (pA k3 (pA (z0k (X := X) k5) (pA (ih_parse_reader_stmts _ _ k6) (pA (z0k (X := X) k7) pT)))) (by kernel_rfl)

theorem zhi {n : Nat} (ih_parse_reader_stmts : ∀ (a0 : z00) (r : (z00 × (List z02))), z0x n a0 = some r → Cs Tryz.prog (GX X) 61 [xP 0 0] [oB 71 (bs (z01 a0))] (z28 r) (z29 r)) (ih_parse_reader_stmt : ∀ (a0 : z00) (r : (z00 × z02 × Bool)), z0j n a0 = some r → Cs Tryz.prog (GX X) 98 [xP 0 0] [oB 71 (bs (z01 a0))] (z3h r) (z3i r)) (ih_parse_reader_conditional : ∀ (a0 : z00) (r : (z00 × z02)), z0r n a0 = some r → Cs Tryz.prog (GX X) 116 [xP 0 0] [oB 71 (bs (z01 a0))] (z1z r) (z22 r)) (ih_parse_reader_loop : ∀ (a0 : z00) (r : (z00 × z02)), z1h n a0 = some r → Cs Tryz.prog (GX X) 117 [xP 0 0] [oB 71 (bs (z01 a0))] (z3j r) (z3k r)) (ih_parse_reader_recv : ∀ (a0 : z00) (r : (z00 × z02)), z1b n a0 = some r → Cs Tryz.prog (GX X) 119 [xP 0 0] [oB 71 (bs (z01 a0))] (z30 r) (z31 r)) (ih_parse_reader_block : ∀ (a0 : z00) (r : (z00 × (List z02))), z0f n a0 = some r → Cs Tryz.prog (GX X) 140 [xP 0 0] [oB 71 (bs (z01 a0))] (z2a r) (z2b r)) (ih_parse_reader_arm : ∀ (a0 : z00) (r : (z00 × z0n)), z12 n a0 = some r → Cs Tryz.prog (GX X) 142 [xP 0 0] [oB 71 (bs (z01 a0))] (z3b r) (z3c r)) (a0 : z00) (r : (z00 × z0n)) (h : z12 (n + 1) a0 = some r) : Cs Tryz.prog (GX X) 142 [xP 0 0] [oB 71 (bs (z01 a0))] (z3b r) (z3c r) := by
 refine fnT (cx := cx X) Tryz.f142 Tryz.call142 Tryz.func142 (by kernel_rfl) ?_
 rw [z12] at h
 obtain ⟨v1, k1, h⟩ := z06 h
 obtain ⟨v2, k2, h⟩ := z06 h
 obtain ⟨v3, k3, h⟩ := z06 h
 obtain ⟨v4, k4, h⟩ := z06 h
 obtain ⟨v5, k5, h⟩ := z06 h
 obtain rfl := retE h
 exact fin (ok X) 15 [.s (z1f v1) (z1g v1), .s (z0h v2) (z0i v2), .s (z1f v3) (z1g v3), .s (z0h v4) (z0i v4), .s (z2a v5) (z2b v5)] (pA (z1k (X := X) k1) (pA (z0k (X := X) k2) (pA (z1k (X := X) k3) (pA (z0k (X := X) k4) (pA (ih_parse_reader_block _ _ k5) pT))))) (by kernel_rfl)

theorem zad : ∀ n : Nat, (∀ (a0 : z00) (r : (z00 × (List z02))), z0x n a0 = some r → Cs Tryz.prog (GX X) 61 [xP 0 0] [oB 71 (bs (z01 a0))] (z28 r) (z29 r)) ∧ (∀ (a0 : z00) (r : (z00 × z02 × Bool)), z0j n a0 = some r → Cs Tryz.prog (GX X) 98 [xP 0 0] [oB 71 (bs (z01 a0))] (z3h r) (z3i r)) ∧ (∀ (a0 : z00) (r : (z00 × z02)), z0r n a0 = some r → Cs Tryz.prog (GX X) 116 [xP 0 0] [oB 71 (bs (z01 a0))] (z1z r) (z22 r)) ∧ (∀ (a0 : z00) (r : (z00 × z02)), z1h n a0 = some r → Cs Tryz.prog (GX X) 117 [xP 0 0] [oB 71 (bs (z01 a0))] (z3j r) (z3k r)) ∧ (∀ (a0 : z00) (r : (z00 × z02)), z1b n a0 = some r → Cs Tryz.prog (GX X) 119 [xP 0 0] [oB 71 (bs (z01 a0))] (z30 r) (z31 r)) ∧ (∀ (a0 : z00) (r : (z00 × (List z02))), z0f n a0 = some r → Cs Tryz.prog (GX X) 140 [xP 0 0] [oB 71 (bs (z01 a0))] (z2a r) (z2b r)) ∧ (∀ (a0 : z00) (r : (z00 × z0n)), z12 n a0 = some r → Cs Tryz.prog (GX X) 142 [xP 0 0] [oB 71 (bs (z01 a0))] (z3b r) (z3c r))
 | 0 => ⟨(fun _ _ h => by rw [z0x] at h; cases h), (fun _ _ h => by rw [z0j] at h; cases h), (fun _ _ h => by rw [z0r] at h; cases h), (fun _ _ h => by rw [z1h] at h; cases h), (fun _ _ h => by rw [z1b] at h; cases h), (fun _ _ h => by rw [z0f] at h; cases h), (fun _ _ h => by rw [z12] at h; cases h)⟩
 | n + 1 => by
  have ih := zad n
  exact ⟨zfp ih.1 ih.2.1 ih.2.2.1 ih.2.2.2.1 ih.2.2.2.2.1 ih.2.2.2.2.2.1 ih.2.2.2.2.2.2, zgo ih.1 ih.2.1 ih.2.2.1 ih.2.2.2.1 ih.2.2.2.2.1 ih.2.2.2.2.2.1 ih.2.2.2.2.2.2, zcd ih.1 ih.2.1 ih.2.2.1 ih.2.2.2.1 ih.2.2.2.2.1 ih.2.2.2.2.2.1 ih.2.2.2.2.2.2, zgp ih.1 ih.2.1 ih.2.2.1 ih.2.2.2.1 ih.2.2.2.2.1 ih.2.2.2.2.2.1 ih.2.2.2.2.2.2, zgq ih.1 ih.2.1 ih.2.2.1 ih.2.2.2.1 ih.2.2.2.2.1 ih.2.2.2.2.2.1 ih.2.2.2.2.2.2, zfq ih.1 ih.2.1 ih.2.2.1 ih.2.2.2.1 ih.2.2.2.2.1 ih.2.2.2.2.2.1 ih.2.2.2.2.2.2, zhi ih.1 ih.2.1 ih.2.2.1 ih.2.2.2.1 ih.2.2.2.2.1 ih.2.2.2.2.2.1 ih.2.2.2.2.2.2⟩

theorem zfr {a0 : z00} {r : (z00 × (List z02))} (h : z5g a0 = some r) : Cs Tryz.prog (GX X) 61 [xP 0 0] [oB 71 (bs (z01 a0))] (z28 r) (z29 r) := by
 obtain ⟨n, hn⟩ := unfE h
 exact (zad n).1 _ _ hn

theorem zgr {a0 : z00} {r : (z00 × z2d)} (h : z5y a0 = some r) : Cs Tryz.prog (GX X) 23 [xP 0 0] [oB 71 (bs (z01 a0))] (z8z r) (z90 r) := by
 refine fnT (cx := cx X) Tryz.f23 Tryz.call23 Tryz.func23 (by kernel_rfl) ?_
 unfold z5y at h
 obtain ⟨v1, k1, h⟩ := z06 h
 obtain ⟨v2, k2, h⟩ := z06 h
 refine adv (ok X) 7 [.s (z1f v1) (z1g v1), .s (z0h v2) (z0i v2)] (pA (z1k (X := X) k1) (pA (z0k (X := X) k2) pT)) (by kernel_rfl) ?_
 refine lp (ok X) (z2r) (fun (x1 : ((List z0b) × Int × Int × Int × Int × Int × (List ByteArray))) => ⟨26, 1, [(0, [xP 0 0]), (2, [xP 1 0]), (3, [xP 2 0])], [oB 71 (bs (z01 (z00.mk x1.1 x1.2.1 x1.2.2.1 x1.2.2.2.1 x1.2.2.2.2.1 x1.2.2.2.2.2.1))), oB 81 [.pv (.str (ByteArray.mk #[])), .emp, .emp], oB 81 [.pv (.str v1.2), .row 3, .emp], oR true 9 1 (List.map z1d x1.2.2.2.2.2.2)]⟩) (fun (j1 : ((List z0b) × Int × Int × Int × Int × Int × (List ByteArray))) => ⟨26, 1, [(0, [xP 0 0]), (2, [xP 1 0]), (3, [xP 2 0])], [oB 71 (bs (z01 (z00.mk j1.1 j1.2.1 j1.2.2.1 j1.2.2.2.1 j1.2.2.2.2.1 j1.2.2.2.2.2.1))), oB 81 [.pv (.str (ByteArray.mk #[])), .emp, .emp], oB 81 [.pv (.str v1.2), .row 3, .emp], oR true 9 1 (List.map z1d j1.2.2.2.2.2.2)]⟩) zgi (v2.f_l, v2.f_end, v2.f_e, v2.f_at, v2.f_deep, v2.f_in, []) (fun _ => ⟨_, _, _, _, rfl⟩) h (by kernel_rfl) (fun x1 o h => ?_) (fun r' h => ?_) (fun j1 h => ?_)
 ·unfold z2r at h
  obtain ⟨v3, k3, h⟩ := z06 h
  refine adv (ok X) 3 [.s (z1u v3) (z1v v3)] (pA (z27 (X := X) k3) pT) (by kernel_rfl) ?_
  rcases iteE h with ⟨k4, h⟩ | ⟨k4, h⟩
  ·obtain ⟨v4, k5, h⟩ := z06 h
   obtain ⟨v5, k6, h⟩ := z06 h
   obtain ⟨v6, k7, h⟩ := z06 h
   obtain rfl := retE h
   exact fin (ok X) 7 [.b true, .o [0, 1, 2, 3, 4, 5, 6, 7], .s (z1f v4) (z1g v4), .l (List.map z1d v5), .s (z0h v6) (z0i v6)] (pA k4 (pA (z1k (X := X) k5) (pA (apm (L := x1.2.2.2.2.2.2) (M := [v4.2]) z1e k6) (pA (z0k (X := X) k7) pT)))) (by kernel_rfl)
  ·obtain rfl := retE h
   exact fin (ok X) 2 [.b false] (pA k4 pT) (by kernel_rfl)
 ·cases h
 ·obtain ⟨v7, k8, h⟩ := z06 h
  obtain ⟨v8, k9, h⟩ := z06 h
  obtain rfl := retE h
  exact fin (ok X) 7 [.s (z28 v7) (z29 v7), .s (z0h v8) (z0i v8)] (pA (zfr (X := X) k8) (pA (z0k (X := X) k9) pT)) (by kernel_rfl)

theorem ze0 {a0 : ByteArray} {r : (z18 × Int × Int)} (h : z7r a0 = some r) : Cv Tryz.prog (GX X) 9 [xS a0] (z86 r) := by
 refine Cs.toV (?_ : Cs Tryz.prog (GX X) 9 [xS a0] [] (z86 r) (zhd r)) (by kernel_rfl)
 refine fnT (cx := cx X) Tryz.f9 Tryz.call9 Tryz.func9 (by kernel_rfl) ?_
 unfold z7r at h
 obtain ⟨v1, k1, h⟩ := z06 h
 refine adv (ok X) 7 [.c (zhc v1)] (pA (zwh (X := X) k1) pT) (by kernel_rfl) ?_
 rcases iteE h with ⟨k2, h⟩ | ⟨k2, h⟩
 ·obtain rfl := retE h
  exact fin (ok X) 4 [.b true] (pA k2 pT) (by kernel_rfl)
 ·refine adv (ok X) 7 [.b false] (pA k2 pT) (by kernel_rfl) ?_
  refine lp (ok X) (z55) (fun (x1 : ((List z0b) × Int × Int × Int × Int × Int × (List z24))) => ⟨76, 0, [(2, [xP 0 0]), (8, [xP 1 0]), (9, [xP 2 0])], [oB 26 [.emp, .emp, .emp], oB 71 (bs (z01 (z00.mk x1.1 x1.2.1 x1.2.2.1 x1.2.2.2.1 x1.2.2.2.2.1 x1.2.2.2.2.2.1))), oB 26 [.row 3, .emp, .emp], oR true 73 6 (List.map z1s x1.2.2.2.2.2.2)]⟩) (fun (j1 : ((List z0b) × Int × Int × Int × Int × Int × (List z24))) => ⟨76, 0, [(2, [xP 0 0]), (8, [xP 1 0]), (9, [xP 2 0])], [oB 26 [.emp, .emp, .emp], oB 71 (bs (z01 (z00.mk j1.1 j1.2.1 j1.2.2.1 j1.2.2.2.1 j1.2.2.2.2.1 j1.2.2.2.2.2.1))), oB 26 [.row 3, .emp, .emp], oR true 73 6 (List.map z1s j1.2.2.2.2.2.2)]⟩) zdy (v1.1, (a0.size : Int), 0, 0, 0, 0, []) (fun _ => ⟨_, _, _, _, rfl⟩) h (by kernel_rfl) (fun x1 o h => ?_) (fun r' h => ?_) (fun j1 h => ?_)
  ·unfold z55 at h
   obtain ⟨v2, k3, h⟩ := z06 h
   refine adv (ok X) 3 [.s (z1u v2) (z1v v2)] (pA (z27 (X := X) k3) pT) (by kernel_rfl) ?_
   rcases iteE h with ⟨k4, h⟩ | ⟨k4, h⟩
   ·obtain ⟨v3, k5, h⟩ := z06 h
    obtain ⟨v4, k6, h⟩ := z06 h
    obtain rfl := retE h
    exact fin (ok X) 5 [.b true, .o [0, 1, 2, 3, 4, 5, 6, 7], .s (z7g v3) (z7h v3), .l (List.map z1s v4)] (pA k4 (pA (zec (X := X) k5) (pA (apm (L := x1.2.2.2.2.2.2) (M := [v3.2]) zfx k6) pT))) (by kernel_rfl)
   ·obtain rfl := retE h
    exact fin (ok X) 2 [.b false] (pA k4 pT) (by kernel_rfl)
  ·cases h
  ·refine adv (ok X) 1 [] pT (by kernel_rfl) ?_
   refine lp (ok X) (z56) (fun (x2 : ((List z0b) × Int × Int × Int × Int × Int × (List z2c))) => ⟨76, 0, [(2, [xP 0 0]), (8, [xP 1 0]), (9, [xP 2 0])], [oB 26 [.emp, .emp, .emp], oB 71 (bs (z01 (z00.mk x2.1 x2.2.1 x2.2.2.1 x2.2.2.2.1 x2.2.2.2.2.1 x2.2.2.2.2.2.1))), oB 26 [.row 3, .row 4, .emp], oR true 73 6 (List.map z1s j1.2.2.2.2.2.2), oR true 77 2 (List.map z2g x2.2.2.2.2.2.2)]⟩) (fun (j2 : ((List z0b) × Int × Int × Int × Int × Int × (List z2c))) => ⟨76, 0, [(2, [xP 0 0]), (8, [xP 1 0]), (9, [xP 2 0])], [oB 26 [.emp, .emp, .emp], oB 71 (bs (z01 (z00.mk j2.1 j2.2.1 j2.2.2.1 j2.2.2.2.1 j2.2.2.2.2.1 j2.2.2.2.2.2.1))), oB 26 [.row 3, .row 4, .emp], oR true 73 6 (List.map z1s j1.2.2.2.2.2.2), oR true 77 2 (List.map z2g j2.2.2.2.2.2.2)]⟩) zdy (j1.1, j1.2.1, j1.2.2.1, j1.2.2.2.1, j1.2.2.2.2.1, j1.2.2.2.2.2.1, []) (fun _ => ⟨_, _, _, _, rfl⟩) h (by kernel_rfl) (fun x2 o h => ?_) (fun r' h => ?_) (fun j2 h => ?_)
   ·unfold z56 at h
    obtain ⟨v5, k7, h⟩ := z06 h
    refine adv (ok X) 3 [.s (z1u v5) (z1v v5)] (pA (z27 (X := X) k7) pT) (by kernel_rfl) ?_
    rcases iteE h with ⟨k8, h⟩ | ⟨k8, h⟩
    ·obtain ⟨v6, k9, h⟩ := z06 h
     obtain ⟨v7, k10, h⟩ := z06 h
     obtain rfl := retE h
     exact fin (ok X) 5 [.b true, .o [0, 1, 2, 3, 4, 5, 6, 7], .s (z8x v6) (z8y v6), .l (List.map z2g v7)] (pA k8 (pA (zgk (X := X) k9) (pA (apm (L := x2.2.2.2.2.2.2) (M := [v6.2]) zfz k10) pT))) (by kernel_rfl)
    ·obtain rfl := retE h
     exact fin (ok X) 2 [.b false] (pA k8 pT) (by kernel_rfl)
   ·cases h
   ·refine adv (ok X) 1 [] pT (by kernel_rfl) ?_
    refine lp (ok X) (z4n) (fun (x3 : ((List z0b) × Int × Int × Int × Int × Int × (List z2d))) => ⟨76, 0, [(2, [xP 0 0]), (8, [xP 1 0]), (9, [xP 2 0])], [oB 26 [.emp, .emp, .emp], oB 71 (bs (z01 (z00.mk x3.1 x3.2.1 x3.2.2.1 x3.2.2.2.1 x3.2.2.2.2.1 x3.2.2.2.2.2.1))), oB 26 [.row 3, .row 4, .row 5], oR true 73 6 (List.map z1s j1.2.2.2.2.2.2), oR true 77 2 (List.map z2g j2.2.2.2.2.2.2), oR true 81 3 (List.map z0m x3.2.2.2.2.2.2)]⟩) (fun (j3 : ((List z0b) × Int × Int × Int × Int × Int × (List z2d))) => ⟨76, 0, [(2, [xP 0 0]), (8, [xP 1 0]), (9, [xP 2 0])], [oB 26 [.emp, .emp, .emp], oB 71 (bs (z01 (z00.mk j3.1 j3.2.1 j3.2.2.1 j3.2.2.2.1 j3.2.2.2.2.1 j3.2.2.2.2.2.1))), oB 26 [.row 3, .row 4, .row 5], oR true 73 6 (List.map z1s j1.2.2.2.2.2.2), oR true 77 2 (List.map z2g j2.2.2.2.2.2.2), oR true 81 3 (List.map z0m j3.2.2.2.2.2.2)]⟩) zdy (j2.1, j2.2.1, j2.2.2.1, j2.2.2.2.1, j2.2.2.2.2.1, j2.2.2.2.2.2.1, []) (fun _ => ⟨_, _, _, _, rfl⟩) h (by kernel_rfl) (fun x3 o h => ?_) (fun r' h => ?_) (fun j3 h => ?_)
    ·unfold z4n at h
     obtain ⟨v8, k11, h⟩ := z06 h
     refine adv (ok X) 3 [.s (z1u v8) (z1v v8)] (pA (z27 (X := X) k11) pT) (by kernel_rfl) ?_
     rcases iteE h with ⟨k12, h⟩ | ⟨k12, h⟩
     ·obtain ⟨v9, k13, h⟩ := z06 h
      obtain ⟨v10, k14, h⟩ := z06 h
      obtain rfl := retE h
      exact fin (ok X) 5 [.b true, .o [0, 1, 2, 3, 4, 5, 6, 7], .s (z8z v9) (z90 v9), .l (List.map z0m v10)] (pA k12 (pA (zgr (X := X) k13) (pA (apm (L := x3.2.2.2.2.2.2) (M := [v9.2]) zg0 k14) pT))) (by kernel_rfl)
     ·obtain rfl := retE h
      exact fin (ok X) 2 [.b false] (pA k12 pT) (by kernel_rfl)
    ·cases h
    ·refine adv (ok X) 3 [.i (j3.1.length : Int)] (pA (lm z1l j3.1) pT) (by kernel_rfl) ?_
     rcases iteE h with ⟨k15, h⟩ | ⟨k15, h⟩
     ·obtain ⟨v11, k16, h⟩ := z06 h
      refine adv (ok X) 5 [.b true, .s (z43 v11) (z44 v11)] (pA k15 (pA (z4k (X := X) k16) pT)) (by kernel_rfl) ?_
      rcases iteE h with ⟨k17, h⟩ | ⟨k17, h⟩
      ·obtain rfl := retE h
       exact fin (ok X) 4 [.b true, .o [0, 1, 2, 3, 4, 5, 6, 7, 8, 9, 10, 11]] (pA k17 pT) (by kernel_rfl)
      ·obtain rfl := retE h
       exact fin (ok X) 5 [.b false] (pA k17 pT) (by kernel_rfl)
     ·refine adv (ok X) 5 [.b false] (pA k15 pT) (by kernel_rfl) ?_
      rcases iteE h with ⟨k18, h⟩ | ⟨k18, h⟩
      ·obtain rfl := retE h
       exact fin (ok X) 4 [.b true, .o [0, 1, 2, 3, 4, 5, 6, 7, 8, 9, 10, 11]] (pA k18 pT) (by kernel_rfl)
      ·obtain rfl := retE h
       exact fin (ok X) 5 [.b false] (pA k18 pT) (by kernel_rfl)
end Go.Proofs.YtokjbpmjdcbogaaGreatDoor.Abs

/- Gw: the functions are these. -/
import Derived.Test.YtokjbpmjdcbogaaGreatDoorGwW0
namespace Go.Proofs.YtokjbpmjdcbogaaGreatDoor.Abs
open Go Go.RowKit
set_option linter.unusedVariables false
set_option maxRecDepth 100000
set_option maxHeartbeats 4000000
variable {X : EV}
theorem znn {a0 : ByteArray} {r : Bool} (h : zcu a0 = some r) : Cv Tryz.prog (GX X) 111 [xS a0] (zet r) := by
 refine Cs.toV (?_ : Cs Tryz.prog (GX X) 111 [xS a0] [] (zet r) (znd r)) (by kernel_rfl)
 refine fnT (cx := cx X) Tryz.f111 Tryz.call111 Tryz.func111 (by kernel_rfl) ?_
 unfold zcu at h
 rcases iteE h with ⟨k1, h⟩ | ⟨k1, h⟩
 ·obtain rfl := retE h
  exact fin (ok X) 15 [.b true, .b true] (pA k1 (pA k1 pT)) (by kernel_rfl)
 ·refine adv (ok X) 12 [.b false] (pA k1 pT) (by kernel_rfl) ?_
  rcases iteE h with ⟨k2, h⟩ | ⟨k2, h⟩
  ·obtain rfl := retE h
   exact fin (ok X) 6 [.b true, .b true] (pA k2 (pA k2 pT)) (by kernel_rfl)
  ·refine adv (ok X) 3 [.b false] (pA k2 pT) (by kernel_rfl) ?_
   rcases iteE h with ⟨k3, h⟩ | ⟨k3, h⟩
   ·obtain rfl := retE h
    exact fin (ok X) 6 [.b true, .b true] (pA k3 (pA k3 pT)) (by kernel_rfl)
   ·refine adv (ok X) 3 [.b false] (pA k3 pT) (by kernel_rfl) ?_
    rcases iteE h with ⟨k4, h⟩ | ⟨k4, h⟩
    ·obtain rfl := retE h
     exact fin (ok X) 6 [.b true, .b true] (pA k4 (pA k4 pT)) (by kernel_rfl)
    ·refine adv (ok X) 3 [.b false] (pA k4 pT) (by kernel_rfl) ?_
     rcases iteE h with ⟨k5, h⟩ | ⟨k5, h⟩
     ·obtain rfl := retE h
      exact fin (ok X) 6 [.b true, .b true] (pA k5 (pA k5 pT)) (by kernel_rfl)
     ·refine adv (ok X) 3 [.b false] (pA k5 pT) (by kernel_rfl) ?_
      rcases iteE h with ⟨k6, h⟩ | ⟨k6, h⟩
      ·obtain rfl := retE h
       exact fin (ok X) 6 [.b true, .b true] (pA k6 (pA k6 pT)) (by kernel_rfl)
      ·refine adv (ok X) 3 [.b false] (pA k6 pT) (by kernel_rfl) ?_
       rcases iteE h with ⟨k7, h⟩ | ⟨k7, h⟩
       ·obtain rfl := retE h
        exact fin (ok X) 6 [.b true, .b true] (pA k7 (pA k7 pT)) (by kernel_rfl)
       ·refine adv (ok X) 2 [.b false] (pA k7 pT) (by kernel_rfl) ?_
        rcases iteE h with ⟨k8, h⟩ | ⟨k8, h⟩
        ·obtain rfl := retE h
         exact fin (ok X) 4 [.b true] (pA k8 pT) (by kernel_rfl)
        ·refine adv (ok X) 4 [.b false] (pA k8 pT) (by kernel_rfl) ?_
         rcases iteE h with ⟨k9, h⟩ | ⟨k9, h⟩
         ·obtain rfl := retE h
          exact fin (ok X) 6 [.b true, .b true] (pA k9 (pA k9 pT)) (by kernel_rfl)
         ·refine adv (ok X) 3 [.b false] (pA k9 pT) (by kernel_rfl) ?_
          rcases iteE h with ⟨k10, h⟩ | ⟨k10, h⟩
          ·obtain rfl := retE h
           exact fin (ok X) 6 [.b true, .b true] (pA k10 (pA k10 pT)) (by kernel_rfl)
          ·refine adv (ok X) 3 [.b false] (pA k10 pT) (by kernel_rfl) ?_
           rcases iteE h with ⟨k11, h⟩ | ⟨k11, h⟩
           ·obtain rfl := retE h
            exact fin (ok X) 6 [.b true, .b true] (pA k11 (pA k11 pT)) (by kernel_rfl)
           ·refine adv (ok X) 3 [.b false] (pA k11 pT) (by kernel_rfl) ?_
            rcases iteE h with ⟨k12, h⟩ | ⟨k12, h⟩
            ·obtain rfl := retE h
             exact fin (ok X) 6 [.b true, .b true] (pA k12 (pA k12 pT)) (by kernel_rfl)
            ·refine adv (ok X) 3 [.b false] (pA k12 pT) (by kernel_rfl) ?_
             rcases iteE h with ⟨k13, h⟩ | ⟨k13, h⟩
             ·obtain rfl := retE h
              exact fin (ok X) 6 [.b true, .b true] (pA k13 (pA k13 pT)) (by kernel_rfl)
             ·refine adv (ok X) 3 [.b false] (pA k13 pT) (by kernel_rfl) ?_
              rcases iteE h with ⟨k14, h⟩ | ⟨k14, h⟩
              ·obtain rfl := retE h
               exact fin (ok X) 6 [.b true, .b true] (pA k14 (pA k14 pT)) (by kernel_rfl)
              ·refine adv (ok X) 3 [.b false] (pA k14 pT) (by kernel_rfl) ?_
               rcases iteE h with ⟨k15, h⟩ | ⟨k15, h⟩
               ·obtain rfl := retE h
                exact fin (ok X) 6 [.b true, .b true] (pA k15 (pA k15 pT)) (by kernel_rfl)
               ·refine adv (ok X) 2 [.b false] (pA k15 pT) (by kernel_rfl) ?_
                rcases iteE h with ⟨k16, h⟩ | ⟨k16, h⟩
                ·obtain rfl := retE h
                 exact fin (ok X) 4 [.b true] (pA k16 pT) (by kernel_rfl)
                ·obtain rfl := retE h
                 exact fin (ok X) 6 [.b false] (pA k16 pT) (by kernel_rfl)

theorem zsr {a0 : ByteArray} {r : (z0e × Int)} (h : zf1 a0 = some r) : Cv Tryz.prog (GX X) 91 [xS a0] (zik r) := by
 refine Cs.toV (?_ : Cs Tryz.prog (GX X) 91 [xS a0] [] (zik r) (zsg r)) (by kernel_rfl)
 refine fnT (cx := cx X) Tryz.f91 Tryz.call91 Tryz.func91 (by kernel_rfl) ?_
 unfold zf1 at h
 rcases iteE h with ⟨k1, h⟩ | ⟨k1, h⟩
 ·obtain rfl := retE h
  exact fin (ok X) 10 [.b true] (pA k1 pT) (by kernel_rfl)
 ·obtain ⟨v1, k2, h⟩ := z06 h
  refine adv (ok X) 9 [.b false, .c (zet v1)] (pA k1 (pA (znn (X := X) k2) pT)) (by kernel_rfl) ?_
  rcases iteE h with ⟨k3, h⟩ | ⟨k3, h⟩
  ·obtain rfl := retE h
   exact fin (ok X) 4 [.b true] (pA k3 pT) (by kernel_rfl)
  ·obtain rfl := retE h
   exact fin (ok X) 6 [.b false] (pA k3 pT) (by kernel_rfl)

theorem zwj {a0 : ByteArray} {r : Int} (h : zjg a0 = some r) : Cv Tryz.prog (GX X) 95 [xS a0] (zkf r) := by
 refine Cs.toV (?_ : Cs Tryz.prog (GX X) 95 [xS a0] [] (zkf r) (zwa r)) (by kernel_rfl)
 refine fnT (cx := cx X) Tryz.f95 Tryz.call95 Tryz.func95 (by kernel_rfl) ?_
 unfold zjg at h
 refine adv (ok X) 4 [] pT (by kernel_rfl) ?_
 refine jn (ok X) 1 (fun (j1 : Bool) => ⟨21, 0, [(0, [xS a0]), (16, [xB j1])], []⟩) h (fun j1 h => ?_) (fun j1 h => ?_)
 ·rcases iteE h with ⟨k1, h⟩ | ⟨k1, h⟩
  ·obtain ⟨v1, k2, h⟩ := z06 h
   rcases iteE h with ⟨k3, h⟩ | ⟨k3, h⟩
   ·obtain ⟨v2, k4, h⟩ := z06 h
    obtain ⟨v3, k5, h⟩ := z06 h
    obtain rfl := retE h
    exact fin (ok X) 1 (.b true :: .b true :: .i v1 :: bT 4 [.i v2, .b true, .c (zsh v3), .b true, .b true]) (pA k1 (pA k1 (pA k2 (pA k1 (pA k1 (pA k3 (pA k3 (pA k4 (pA k3 (pA (zyk (X := X) k5) (pA k3 (pA k3 pT)))))))))))) (by kernel_rfl)
   ·obtain rfl := retE h
    exact fin (ok X) 1 (.b true :: .b true :: .i v1 :: .b true :: .b true :: bF 5 []) (pA k1 (pA k1 (pA k2 (pA k1 (pA k1 (pR 5 k3 pT)))))) (by kernel_rfl)
  ·obtain rfl := retE h
   exact fin (ok X) 1 (bF 9 []) (pR 4 k1 (pR 5 ff pT)) (by kernel_rfl)
 ·rcases iteE h with ⟨k6, h⟩ | ⟨k6, h⟩
  ·obtain rfl := retE h
   exact fin (ok X) 4 [.b true] (pA k6 pT) (by kernel_rfl)
  ·obtain ⟨v4, k7, h⟩ := z06 h
   obtain ⟨v5, k8, h⟩ := z06 h
   refine adv (ok X) 5 [.b false, .i v4, .c (zsh v5)] (pA k6 (pA k7 (pA (zyk (X := X) k8) pT))) (by kernel_rfl) ?_
   rcases iteE h with ⟨k9, h⟩ | ⟨k9, h⟩
   ·obtain rfl := retE h
    exact fin (ok X) 4 [.b true] (pA k9 pT) (by kernel_rfl)
   ·obtain rfl := retE h
    exact fin (ok X) 5 [.b false] (pA k9 pT) (by kernel_rfl)

theorem zwk {a0 : ByteArray} {r : (z0e × Int)} (h : zft a0 = some r) : Cv Tryz.prog (GX X) 55 [xS a0] (zkg r) := by
 refine Cs.toV (?_ : Cs Tryz.prog (GX X) 55 [xS a0] [] (zkg r) (zwb r)) (by kernel_rfl)
 refine fnT (cx := cx X) Tryz.f55 Tryz.call55 Tryz.func55 (by kernel_rfl) ?_
 unfold zft at h
 obtain ⟨v1, k1, h⟩ := z06 h
 obtain ⟨v2, k2, h⟩ := z06 h
 refine adv (ok X) 6 [.i v1, .c (zct v2)] (pA k1 (pA (zgv (X := X) k2) pT)) (by kernel_rfl) ?_
 rcases iteE h with ⟨k3, h⟩ | ⟨k3, h⟩
 ·obtain ⟨v3, k4, h⟩ := z06 h
  obtain ⟨v4, k5, h⟩ := z06 h
  obtain ⟨v5, k6, h⟩ := z06 h
  obtain rfl := retE h
  exact fin (ok X) 4 [.b true, .c (zgo v3), .x [xS v4], .c (zik v5)] (pA k3 (pA (zqy (X := X) k4) (pA k5 (pA (zsr (X := X) k6) pT)))) (by kernel_rfl)
 ·obtain ⟨v6, k7, h⟩ := z06 h
  obtain ⟨v7, k8, h⟩ := z06 h
  refine adv (ok X) 3 [.b false, .i v6, .c (zfs v7)] (pA k3 (pA k7 (pA (zmm (X := X) k8) pT))) (by kernel_rfl) ?_
  rcases iteE h with ⟨k9, h⟩ | ⟨k9, h⟩
  ·obtain ⟨v8, k10, h⟩ := z06 h
   obtain ⟨v9, k11, h⟩ := z06 h
   obtain ⟨v10, k12, h⟩ := z06 h
   obtain rfl := retE h
   exact fin (ok X) 8 [.b true, .c (zgo v8), .x [xS v9], .c (zuk v10)] (pA k9 (pA (zqy (X := X) k10) (pA k11 (pA (z00y (X := X) k12) pT)))) (by kernel_rfl)
  ·obtain ⟨v11, k13, h⟩ := z06 h
   refine adv (ok X) 8 [.b false, .c (zkf v11)] (pA k9 (pA (zwj (X := X) k13) pT)) (by kernel_rfl) ?_
   rcases iteE h with ⟨k14, h⟩ | ⟨k14, h⟩
   ·obtain rfl := retE h
    exact fin (ok X) 4 [.b true] (pA k14 pT) (by kernel_rfl)
   ·obtain ⟨v12, k15, h⟩ := z06 h
    obtain rfl := retE h
    exact fin (ok X) 5 [.b false, .x [xS v12]] (pA k14 (pA k15 pT)) (by kernel_rfl)

theorem zyl {a0 : ByteArray} {r : ((List z0e) × Int × Int)} (h : zil a0 = some r) : Cv Tryz.prog (GX X) 19 [xS a0] (zjh r) := by
 refine Cs.toV (?_ : Cs Tryz.prog (GX X) 19 [xS a0] [] (zjh r) (zqr r)) (by kernel_rfl)
 refine fnT (cx := cx X) Tryz.f19 Tryz.call19 Tryz.func19 (by kernel_rfl) ?_
 unfold zil at h
 refine adv (ok X) 7 [] pT (by kernel_rfl) ?_
 refine lp (ok X) (zce a0) (fun (x1 : (Int × (List z0e))) => ⟨53, 0, [(0, [xS a0]), (5, [xR 0]), (6, [xI x1.1])], [oR true 140 4 (List.map z28 x1.2)]⟩) (fun (j1 : (List z0e)) => ⟨53, 0, [(0, [xS a0]), (5, [xR 0])], [oR true 140 4 (List.map z28 j1)]⟩) zyj (0, []) (fun _ => ⟨_, _, _, _, rfl⟩) h (by kernel_rfl) (fun x1 o h => ?_) (fun r' h => ?_) (fun j1 h => ?_)
 ·unfold zce at h
  rcases iteE h with ⟨k1, h⟩ | ⟨k1, h⟩
  ·refine adv (ok X) 8 [.b true] (pA k1 pT) (by kernel_rfl) ?_
   refine jn (ok X) 1 (fun (j2 : Bool) => ⟨53, 0, [(0, [xS a0]), (5, [xR 0]), (6, [xI x1.1]), (22, [xB j2])], [oR true 140 4 (List.map z28 x1.2)]⟩) h (fun j2 h => ?_) (fun j2 h => ?_)
   ·obtain ⟨v1, k2, h⟩ := z06 h
    rcases iteE h with ⟨k3, h⟩ | ⟨k3, h⟩
    ·obtain rfl := retE h
     exact fin (ok X) 1 (.i v1 :: bT 5 []) (pA k2 (pR 5 k3 pT)) (by kernel_rfl)
    ·obtain ⟨v2, k4, h⟩ := z06 h
     obtain rfl := retE h
     exact fin (ok X) 1 (.i v1 :: bF 3 [.i v2, .b false, .b false]) (pA k2 (pR 3 k3 (pA k4 (pA k3 (pA k3 pT))))) (by kernel_rfl)
   ·rcases iteE h with ⟨k5, h⟩ | ⟨k5, h⟩
    ·obtain rfl := retE h
     exact fin (ok X) 4 [.b true] (pA k5 pT) (by kernel_rfl)
    ·obtain ⟨v3, k6, h⟩ := z06 h
     obtain ⟨v4, k7, h⟩ := z06 h
     refine adv (ok X) 7 [.b false, .x [xS v3], .c (zkg v4)] (pA k5 (pA k6 (pA (zwk (X := X) k7) pT))) (by kernel_rfl) ?_
     rcases iteE h with ⟨k8, h⟩ | ⟨k8, h⟩
     ·obtain rfl := retE h
      exact fin (ok X) 4 [.b true] (pA k8 pT) (by kernel_rfl)
     ·obtain ⟨v5, k9, h⟩ := z06 h
      obtain rfl := retE h
      exact fin (ok X) 8 [.b false, .l (List.map z28 v5)] (pA k8 (pA (apm (L := x1.2) (M := [(z0e.mk v4.1.Kind v4.1.Text v4.1.Num x1.1)]) ze8 k9) pT)) (by kernel_rfl)
  ·obtain rfl := retE h
   exact fin (ok X) 5 [.b false] (pA k1 pT) (by kernel_rfl)
 ·obtain rfl := retE h
  kernel_rfl
 ·refine adv (ok X) 3 [.i (j1.length : Int)] (pA (lm z28 j1) pT) (by kernel_rfl) ?_
  rcases iteE h with ⟨k10, h⟩ | ⟨k10, h⟩
  ·obtain rfl := retE h
   exact fin (ok X) 4 [.b true] (pA k10 pT) (by kernel_rfl)
  ·obtain rfl := retE h
   exact fin (ok X) 5 [.b false] (pA k10 pT) (by kernel_rfl)

theorem z5w {a0 : z00} {a1 : ByteArray} {r : Bool} (h : z39 a0 a1 = some r) : Cs Tryz.prog (GX X) 56 [xP 0 0, xS a1] [oB 71 (bs (z02 a0))] (z54 r) (z55 a0 r) := by
 refine fnT (cx := cx X) Tryz.f56 Tryz.call56 Tryz.func56 (by kernel_rfl) ?_
 unfold z39 at h
 rcases iteE h with ⟨k1, h⟩ | ⟨k1, h⟩
 ·rcases iteE h with ⟨k2, h⟩ | ⟨k2, h⟩
  ·obtain ⟨v1, k3, h⟩ := z06 h
   rcases iteE h with ⟨k4, h⟩ | ⟨k4, h⟩
   ·obtain ⟨v2, k5, h⟩ := z06 h
    obtain rfl := retE h
    exact fin (ok X) 5 (bT 5 (.i (a0.f_l.length : Int) :: bT 7 (.e (z28 v1) :: bT 9 (.e (z28 v2) :: bT 5 [])))) (pR 5 k1 (pA (lm z28 a0.f_l) (pA k1 (pA k1 (pR 5 k2 (pA (ixm z28 k3) (pR 4 k2 (pR 5 k4 (pA (ixm z28 k5) (pR 5 k4 pT)))))))))) (by kernel_rfl)
   ·obtain rfl := retE h
    exact fin (ok X) 5 (bT 5 (.i (a0.f_l.length : Int) :: bT 7 (.e (z28 v1) :: bT 4 (bF 10 [])))) (pR 5 k1 (pA (lm z28 a0.f_l) (pA k1 (pA k1 (pR 5 k2 (pA (ixm z28 k3) (pR 4 k2 (pR 10 k4 pT)))))))) (by kernel_rfl)
  ·obtain rfl := retE h
   exact fin (ok X) 5 (bT 5 (.i (a0.f_l.length : Int) :: .b true :: .b true :: bF 19 [])) (pR 5 k1 (pA (lm z28 a0.f_l) (pA k1 (pA k1 (pR 9 k2 (pR 10 ff pT)))))) (by kernel_rfl)
 ·obtain rfl := retE h
  exact fin (ok X) 5 (bF 26 []) (pR 7 k1 (pR 19 ff pT)) (by kernel_rfl)

theorem z2y {a0 : z00} {a1 : ByteArray} {r : (z00 × Bool)} (h : z0g a0 a1 = some r) : Cs Tryz.prog (GX X) 20 [xP 0 0, xS a1] [oB 71 (bs (z02 a0))] (z2m r) (z2n r) := by
 refine fnT (cx := cx X) Tryz.f20 Tryz.call20 Tryz.func20 (by kernel_rfl) ?_
 unfold z0g at h
 obtain ⟨v1, k1, h⟩ := z06 h
 refine adv (ok X) 5 [.s (z54 v1) (z55 a0 v1)] (pA (z5w (X := X) k1) pT) (by kernel_rfl) ?_
 rcases iteE h with ⟨k2, h⟩ | ⟨k2, h⟩
 ·obtain rfl := retE h
  exact fin (ok X) 4 [.b true] (pA k2 pT) (by kernel_rfl)
 ·obtain ⟨v2, k3, h⟩ := z06 h
  obtain rfl := retE h
  exact fin (ok X) 7 [.b false, .l (List.map z28 v2)] (pA k2 (pA (lsm0 z28 k3) (pA (lnm ze8 a0.f_l) pT))) (by kernel_rfl)

theorem zci {a0 : z00} {a1 : Int} {r : Bool} (h : z68 a0 a1 = some r) : Cs Tryz.prog (GX X) 115 [xP 0 0, xI a1] [oB 71 (bs (z02 a0))] (z9v r) (z9w a0 r) := by
 refine fnT (cx := cx X) Tryz.f115 Tryz.call115 Tryz.func115 (by kernel_rfl) ?_
 unfold z68 at h
 rcases iteE h with ⟨k1, h⟩ | ⟨k1, h⟩
 ·rcases iteE h with ⟨k2, h⟩ | ⟨k2, h⟩
  ·obtain ⟨v1, k3, h⟩ := z06 h
   obtain rfl := retE h
   exact fin (ok X) 5 (bT 5 (.i (a0.f_l.length : Int) :: bT 7 (.e (z28 v1) :: bT 5 []))) (pR 5 k1 (pA (lm z28 a0.f_l) (pA k1 (pA k1 (pR 5 k2 (pA (ixm z28 k3) (pR 5 k2 pT))))))) (by kernel_rfl)
  ·obtain rfl := retE h
   exact fin (ok X) 5 (bT 5 (.i (a0.f_l.length : Int) :: .b true :: .b true :: bF 10 [])) (pR 5 k1 (pA (lm z28 a0.f_l) (pA k1 (pA k1 (pR 10 k2 pT))))) (by kernel_rfl)
 ·obtain rfl := retE h
  exact fin (ok X) 5 (bF 17 []) (pR 7 k1 (pR 10 ff pT)) (by kernel_rfl)

theorem z5x {a0 : z00} {a1 : Int} {r : z00} (h : z2c a0 a1 = some r) : Cs Tryz.prog (GX X) 24 [xP 0 0, xI a1] [oB 71 (bs (z02 a0))] (z56 r) (z57 r) := by
 refine fnT (cx := cx X) Tryz.f24 Tryz.call24 Tryz.func24 (by kernel_rfl) ?_
 unfold z2c at h
 rcases iteE h with ⟨k1, h⟩ | ⟨k1, h⟩
 ·obtain rfl := retE h
  exact fin (ok X) 5 [.b true] (pA k1 pT) (by kernel_rfl)
 ·refine adv (ok X) 9 [.b false, .i (a0.f_l.length : Int)] (pA k1 (pA (lm z28 a0.f_l) pT)) (by kernel_rfl) ?_
  rcases iteE h with ⟨k2, h⟩ | ⟨k2, h⟩
  ·obtain ⟨v1, k3, h⟩ := z06 h
   obtain rfl := retE h
   exact fin (ok X) 2 [.b true, .e (z28 v1)] (pA k2 (pA (ixm z28 k3) pT)) (by kernel_rfl)
  ·obtain rfl := retE h
   exact fin (ok X) 2 [.b false] (pA k2 pT) (by kernel_rfl)

theorem zea {a0 : z00} {a1 : Int} {r : (z00 × z0e)} (h : z60 a0 a1 = some r) : Cs Tryz.prog (GX X) 96 [xP 0 0, xI a1] [oB 71 (bs (z02 a0))] (zam r) (zan r) := by
 refine fnT (cx := cx X) Tryz.f96 Tryz.call96 Tryz.func96 (by kernel_rfl) ?_
 unfold z60 at h
 obtain ⟨v1, k1, h⟩ := z06 h
 refine adv (ok X) 5 [.s (z9v v1) (z9w a0 v1)] (pA (zci (X := X) k1) pT) (by kernel_rfl) ?_
 rcases iteE h with ⟨k2, h⟩ | ⟨k2, h⟩
 ·obtain ⟨v2, k3, h⟩ := z06 h
  obtain rfl := retE h
  exact fin (ok X) 6 [.b true, .s (z56 v2) (z57 v2)] (pA k2 (pA (z5x (X := X) k3) pT)) (by kernel_rfl)
 ·obtain ⟨v3, k4, h⟩ := z06 h
  obtain ⟨v4, k5, h⟩ := z06 h
  obtain rfl := retE h
  exact fin (ok X) 9 [.b false, .e (z28 v3), .l (List.map z28 v4)] (pA k2 (pA (ixm z28 k4) (pA (lsm0 z28 k5) (pA (lnm ze8 a0.f_l) pT)))) (by kernel_rfl)

theorem z27 {a0 : z00} {r : (z00 × ByteArray)} (h : z0f a0 = some r) : Cs Tryz.prog (GX X) 57 [xP 0 0] [oB 71 (bs (z02 a0))] (z1w r) (z1x r) := by
 refine fnT (cx := cx X) Tryz.f57 Tryz.call57 Tryz.func57 (by kernel_rfl) ?_
 unfold z0f at h
 obtain ⟨v1, k1, h⟩ := z06 h
 obtain rfl := retE h
 exact fin (ok X) 5 [.s (zam v1) (zan v1)] (pA (zea (X := X) k1) pT) (by kernel_rfl)

theorem z7q {a0 : (List ByteArray)} {a1010 : z00} {r : (z00 × Int)} (h : z2a a0 a1010 = some r) : Cs Tryz.prog (GX X) 97 [xL (List.map z1j a0), .fn (.func 20) [.box 0 0] []] [oB 71 (bs (z02 a1010))] (z3o r) (z3p r) := by
 refine fnT (cx := cx X) Tryz.f97 Tryz.call97 Tryz.func97 (by kernel_rfl) ?_
 unfold z2a at h
 refine adv (ok X) 5 [.i (a0.length : Int)] (pA (lm z1j a0) pT) (by kernel_rfl) ?_
 refine lp (ok X) (z0l a0) (fun (x1 : (Int × (List z0e) × Int × Int × Int × Int × Int)) => ⟨19, 1, [(0, [xL (List.map z1j a0)]), (1, [.fn (.func 20) [.box 0 0] []]), (7, [xI (a0.length : Int)]), (8, [xI x1.1])], [oB 71 (bs (z02 (z00.mk x1.2.1 x1.2.2.1 x1.2.2.2.1 x1.2.2.2.2.1 x1.2.2.2.2.2.1 x1.2.2.2.2.2.2)))]⟩) (fun (j1 : ((List z0e) × Int × Int × Int × Int × Int)) => ⟨19, 1, [], [oB 71 (bs (z02 (z00.mk j1.1 j1.2.1 j1.2.2.1 j1.2.2.2.1 j1.2.2.2.2.1 j1.2.2.2.2.2)))]⟩) z7n (0, a1010.f_l, a1010.f_end, a1010.f_e, a1010.f_at, a1010.f_deep, a1010.f_in) (fun _ => ⟨_, _, _, _, rfl⟩) h (by kernel_rfl) (fun x1 o h => ?_) (fun r' h => ?_) (fun j1 h => ?_)
 ·unfold z0l at h
  rcases iteE h with ⟨k1, h⟩ | ⟨k1, h⟩
  ·obtain ⟨v1, k2, h⟩ := z06 h
   obtain ⟨v2, k3, h⟩ := z06 h
   refine adv (ok X) 11 [.b true, .e [.str v1], .s (z2m v2) (z2n v2)] (pA k1 (pA (ixm z1j k2) (pA (z2y (X := X) k3) pT))) (by kernel_rfl) ?_
   rcases iteE h with ⟨k4, h⟩ | ⟨k4, h⟩
   ·obtain rfl := retE h
    exact fin (ok X) 4 [.b true] (pA k4 pT) (by kernel_rfl)
   ·obtain rfl := retE h
    exact fin (ok X) 4 [.b false] (pA k4 pT) (by kernel_rfl)
  ·obtain rfl := retE h
   exact fin (ok X) 5 [.b false] (pA k1 pT) (by kernel_rfl)
 ·obtain rfl := retE h
  kernel_rfl
 ·obtain rfl := retE h
  exact fin (ok X) 3 [] pT (by kernel_rfl)

theorem z8h {a0 : z00} {a1 : (List ByteArray)} {r : (z00 × Int)} (h : z1r a0 a1 = some r) : Cs Tryz.prog (GX X) 58 [xP 0 0, xL (List.map z1j a1)] [oB 71 (bs (z02 a0))] (z78 r) (z79 r) := by
 refine fnT (cx := cx X) Tryz.f58 Tryz.call58 Tryz.func58 (by kernel_rfl) ?_
 unfold z1r at h
 obtain ⟨v1, k1, h⟩ := z06 h
 obtain rfl := retE h
 exact fin (ok X) 5 [.s (z3o v1) (z3p v1)] (pA (z7q (X := X) k1) pT) (by kernel_rfl)

theorem z8b {a0 : z00} {r : (z00 × Int)} (h : z26 a0 = some r) : Cs Tryz.prog (GX X) 59 [xP 0 0] [oB 71 (bs (z02 a0))] (z6t r) (z6u r) := by
 refine fnT (cx := cx X) Tryz.f59 Tryz.call59 Tryz.func59 (by kernel_rfl) ?_
 unfold z26 at h
 obtain ⟨v1, k1, h⟩ := z06 h
 obtain rfl := retE h
 exact fin (ok X) 5 [.s (zam v1) (zan v1)] (pA (zea (X := X) k1) pT) (by kernel_rfl)

theorem z0u {a0 : z00} {a1 : ByteArray} {r : z00} (h : z08 a0 a1 = some r) : Cs Tryz.prog (GX X) 60 [xP 0 0, xS a1] [oB 71 (bs (z02 a0))] (z0p r) (z0q r) := by
 refine fnT (cx := cx X) Tryz.f60 Tryz.call60 Tryz.func60 (by kernel_rfl) ?_
 unfold z08 at h
 obtain ⟨v1, k1, h⟩ := z06 h
 refine adv (ok X) 2 [.s (z2m v1) (z2n v1)] (pA (z2y (X := X) k1) pT) (by kernel_rfl) ?_
 rcases iteE h with ⟨k2, h⟩ | ⟨k2, h⟩
 ·obtain ⟨v2, k3, h⟩ := z06 h
  obtain rfl := retE h
  exact fin (ok X) 2 [.b true, .s (z56 v2) (z57 v2)] (pA k2 (pA (z5x (X := X) k3) pT)) (by kernel_rfl)
 ·obtain rfl := retE h
  exact fin (ok X) 2 [.b false] (pA k2 pT) (by kernel_rfl)

theorem zg6 {a0 : z00} {r : (z00 × z33)} (h : z6a a0 = some r) : Cs Tryz.prog (GX X) 21 [xP 0 0] [oB 71 (bs (z02 a0))] (z9b r) (z9c r) := by
 refine fnT (cx := cx X) Tryz.f21 Tryz.call21 Tryz.func21 (by kernel_rfl) ?_
 unfold z6a at h
 obtain ⟨v1, k1, h⟩ := z06 h
 obtain ⟨v2, k2, h⟩ := z06 h
 refine adv (ok X) 9 [.s (z1w v1) (z1x v1), .s (z78 v2) (z79 v2)] (pA (z27 (X := X) k1) (pA (z8h (X := X) k2) pT)) (by kernel_rfl) ?_
 rcases iteE h with ⟨k3, h⟩ | ⟨k3, h⟩
 ·obtain ⟨v3, k4, h⟩ := z06 h
  obtain rfl := retE h
  exact fin (ok X) 6 [.b true, .s (z56 v3) (z57 v3)] (pA k3 (pA (z5x (X := X) k4) pT)) (by kernel_rfl)
 ·obtain ⟨v4, k5, h⟩ := z06 h
  obtain ⟨v5, k6, h⟩ := z06 h
  obtain ⟨v6, k7, h⟩ := z06 h
  obtain ⟨v7, k8, h⟩ := z06 h
  obtain ⟨v8, k9, h⟩ := z06 h
  obtain ⟨v9, k10, h⟩ := z06 h
  obtain ⟨v10, k11, h⟩ := z06 h
  obtain ⟨v11, k12, h⟩ := z06 h
  refine adv (ok X) 17 [.b false, .s (z6t v4) (z6u v4), .s (z0p v5) (z0q v5), .s (z1w v6) (z1x v6), .s (z0p v7) (z0q v7), .s (z1w v8) (z1x v8), .s (z0p v9) (z0q v9), .o [0, 1, 2, 3, 4, 5, 6, 7], .s (z1w v10) (z1x v10), .l (List.map z1j v11)] (pA k3 (pA (z8b (X := X) k5) (pA (z0u (X := X) k6) (pA (z27 (X := X) k7) (pA (z0u (X := X) k8) (pA (z27 (X := X) k9) (pA (z0u (X := X) k10) (pA (z27 (X := X) k11) (pA (apm (L := []) (M := [v10.2]) z1q k12) pT))))))))) (by kernel_rfl) ?_
  refine lp (ok X) (z29) (fun (x1 : ((List z0e) × Int × Int × Int × Int × Int × (List ByteArray))) => ⟨53, 1, [(0, [xP 0 0]), (2, [xP 1 0]), (3, [xP 2 0])], [oB 71 (bs (z02 (z00.mk x1.1 x1.2.1 x1.2.2.1 x1.2.2.2.1 x1.2.2.2.2.1 x1.2.2.2.2.2.1))), oB 73 [.pv (.str (ByteArray.mk #[])), .pv (.int .i64 0), .pv (.int .i64 0), .pv (.str (ByteArray.mk #[])), .pv (.str (ByteArray.mk #[])), .emp], oB 73 [.pv (.str v1.2), .pv (.int .i64 v2.2), .pv (.int .i64 v4.2), .pv (.str v6.2), .pv (.str v8.2), .row 3], oR true 9 1 (List.map z1j x1.2.2.2.2.2.2)]⟩) (fun (j1 : ((List z0e) × Int × Int × Int × Int × Int × (List ByteArray))) => ⟨53, 1, [(0, [xP 0 0]), (2, [xP 1 0]), (3, [xP 2 0])], [oB 71 (bs (z02 (z00.mk j1.1 j1.2.1 j1.2.2.1 j1.2.2.2.1 j1.2.2.2.2.1 j1.2.2.2.2.2.1))), oB 73 [.pv (.str (ByteArray.mk #[])), .pv (.int .i64 0), .pv (.int .i64 0), .pv (.str (ByteArray.mk #[])), .pv (.str (ByteArray.mk #[])), .emp], oB 73 [.pv (.str v1.2), .pv (.int .i64 v2.2), .pv (.int .i64 v4.2), .pv (.str v6.2), .pv (.str v8.2), .row 3], oR true 9 1 (List.map z1j j1.2.2.2.2.2.2)]⟩) zg2 (v10.1.f_l, v10.1.f_end, v10.1.f_e, v10.1.f_at, v10.1.f_deep, v10.1.f_in, v11) (fun _ => ⟨_, _, _, _, rfl⟩) h (by kernel_rfl) (fun x1 o h => ?_) (fun r' h => ?_) (fun j1 h => ?_)
  ·unfold z29 at h
   obtain ⟨v12, k13, h⟩ := z06 h
   refine adv (ok X) 3 [.s (z2m v12) (z2n v12)] (pA (z2y (X := X) k13) pT) (by kernel_rfl) ?_
   rcases iteE h with ⟨k14, h⟩ | ⟨k14, h⟩
   ·obtain ⟨v13, k15, h⟩ := z06 h
    obtain ⟨v14, k16, h⟩ := z06 h
    obtain rfl := retE h
    exact fin (ok X) 5 [.b true, .o [0, 1, 2, 3, 4, 5, 6, 7], .s (z1w v13) (z1x v13), .l (List.map z1j v14)] (pA k14 (pA (z27 (X := X) k15) (pA (apm (L := x1.2.2.2.2.2.2) (M := [v13.2]) z1q k16) pT))) (by kernel_rfl)
   ·obtain rfl := retE h
    exact fin (ok X) 2 [.b false] (pA k14 pT) (by kernel_rfl)
  ·cases h
  ·obtain ⟨v15, k17, h⟩ := z06 h
   obtain ⟨v16, k18, h⟩ := z06 h
   obtain rfl := retE h
   exact fin (ok X) 7 [.s (z0p v15) (z0q v15), .s (z0p v16) (z0q v16)] (pA (z0u (X := X) k17) (pA (z0u (X := X) k18) pT)) (by kernel_rfl)

theorem ziq {a0 : z00} {r : (z00 × z3b)} (h : z7j a0 = some r) : Cs Tryz.prog (GX X) 22 [xP 0 0] [oB 71 (bs (z02 a0))] (zao r) (zap r) := by
 refine fnT (cx := cx X) Tryz.f22 Tryz.call22 Tryz.func22 (by kernel_rfl) ?_
 unfold z7j at h
 obtain ⟨v1, k1, h⟩ := z06 h
 obtain ⟨v2, k2, h⟩ := z06 h
 refine adv (ok X) 7 [.s (z1w v1) (z1x v1), .s (z0p v2) (z0q v2)] (pA (z27 (X := X) k1) (pA (z0u (X := X) k2) pT)) (by kernel_rfl) ?_
 refine lp (ok X) (z3j) (fun (x1 : ((List z0e) × Int × Int × Int × Int × Int × (List z4h))) => ⟨38, 1, [(0, [xP 0 0]), (2, [xP 1 0]), (3, [xP 2 0])], [oB 71 (bs (z02 (z00.mk x1.1 x1.2.1 x1.2.2.1 x1.2.2.2.1 x1.2.2.2.2.1 x1.2.2.2.2.2.1))), oB 77 [.pv (.str (ByteArray.mk #[])), .emp], oB 77 [.pv (.str v1.2), .row 3], oR true 111 3 (List.map z4p x1.2.2.2.2.2.2)]⟩) (fun (j1 : ((List z0e) × Int × Int × Int × Int × Int × (List z4h))) => ⟨38, 1, [(0, [xP 0 0]), (2, [xP 1 0]), (3, [xP 2 0])], [oB 71 (bs (z02 (z00.mk j1.1 j1.2.1 j1.2.2.1 j1.2.2.2.1 j1.2.2.2.2.1 j1.2.2.2.2.2.1))), oB 77 [.pv (.str (ByteArray.mk #[])), .emp], oB 77 [.pv (.str v1.2), .row 3], oR true 111 3 (List.map z4p j1.2.2.2.2.2.2)]⟩) zim (v2.f_l, v2.f_end, v2.f_e, v2.f_at, v2.f_deep, v2.f_in, []) (fun _ => ⟨_, _, _, _, rfl⟩) h (by kernel_rfl) (fun x1 o h => ?_) (fun r' h => ?_) (fun j1 h => ?_)
 ·unfold z3j at h
  refine adv (ok X) 2 [] pT (by kernel_rfl) ?_
  refine jn (ok X) 1 (fun (j2 : Bool) => ⟨38, 1, [(0, [xP 0 0]), (2, [xP 1 0]), (3, [xP 2 0]), (19, [xB j2])], [oB 71 (bs (z02 (z00.mk x1.1 x1.2.1 x1.2.2.1 x1.2.2.2.1 x1.2.2.2.2.1 x1.2.2.2.2.2.1))), oB 77 [.pv (.str (ByteArray.mk #[])), .emp], oB 77 [.pv (.str v1.2), .row 3], oR true 111 3 (List.map z4p x1.2.2.2.2.2.2)]⟩) h (fun j2 h => ?_) (fun j2 h => ?_)
  ·rcases iteE h with ⟨k3, h⟩ | ⟨k3, h⟩
   ·obtain ⟨v3, k4, h⟩ := z06 h
    obtain rfl := retE h
    exact fin (ok X) 1 [.b true, .b true, .s (z54 v3) (z55 (z00.mk x1.1 x1.2.1 x1.2.2.1 x1.2.2.2.1 x1.2.2.2.2.1 x1.2.2.2.2.2.1) v3), .b true, .b true] (pA k3 (pA k3 (pA (z5w (X := X) k4) (pA k3 (pA k3 pT))))) (by kernel_rfl)
   ·obtain rfl := retE h
    exact fin (ok X) 1 (bF 4 []) (pR 4 k3 pT) (by kernel_rfl)
  ·rcases iteE h with ⟨k5, h⟩ | ⟨k5, h⟩
   ·obtain ⟨v4, k6, h⟩ := z06 h
    obtain ⟨v5, k7, h⟩ := z06 h
    obtain ⟨v6, k8, h⟩ := z06 h
    obtain ⟨v7, k9, h⟩ := z06 h
    obtain ⟨v8, k10, h⟩ := z06 h
    obtain rfl := retE h
    exact fin (ok X) 9 [.b true, .s (z6t v4) (z6u v4), .s (z1w v5) (z1x v5), .s (z6t v6) (z6u v6), .s (z0p v7) (z0q v7), .l (List.map z4p v8)] (pA k5 (pA (z8b (X := X) k6) (pA (z27 (X := X) k7) (pA (z8b (X := X) k8) (pA (z0u (X := X) k9) (pA (apm (L := x1.2.2.2.2.2.2) (M := [(z4h.mk v4.2 v5.2 v6.2)]) zi2 k10) pT)))))) (by kernel_rfl)
   ·obtain rfl := retE h
    exact fin (ok X) 2 [.b false] (pA k5 pT) (by kernel_rfl)
 ·cases h
 ·obtain ⟨v9, k11, h⟩ := z06 h
  obtain rfl := retE h
  exact fin (ok X) 5 [.s (z0p v9) (z0q v9)] (pA (z0u (X := X) k11) pT) (by kernel_rfl)

theorem zd8 {a0 : z00} {r : (z00 × Bool)} (h : z6x a0 = some r) : Cs Tryz.prog (GX X) 187 [xP 0 0] [oB 71 (bs (z02 a0))] (za6 r) (za7 r) := by
 refine fnT (cx := cx X) Tryz.f187 Tryz.call187 Tryz.func187 (by kernel_rfl) ?_
 unfold z6x at h
 rcases iteE h with ⟨k1, h⟩ | ⟨k1, h⟩
 ·obtain ⟨v1, k2, h⟩ := z06 h
  obtain rfl := retE h
  exact fin (ok X) 11 [.b true, .s (z56 v1) (z57 v1)] (pA k1 (pA (z5x (X := X) k2) pT)) (by kernel_rfl)
 ·obtain rfl := retE h
  exact fin (ok X) 12 [.b false] (pA k1 pT) (by kernel_rfl)

theorem zir {n : Nat} (ih_parse_reader_expr : ∀ (a0 : z00) (r : (z00 × z05)), z1h n a0 = some r → Cs Tryz.prog (GX X) 141 [xP 0 0] [oB 71 (bs (z02 a0))] (z2o r) (z2p r)) (ih_parse_reader_chain_parse_reader_term : ∀ (a0 : z00) (a2 : (List ByteArray)) (a3 : Int) (r : (z00 × z05)), z0c n a0 a2 a3 = some r → Cs Tryz.prog (GX X) 160 [xP 0 0, .fn (.func 161) [.box 0 0] [], xL (List.map z1j a2), xI a3] [oB 71 (bs (z02 a0))] (z17 r) (z18 r)) (ih_parse_reader_term : ∀ (a0 : z00) (r : (z00 × z05)), z1e n a0 = some r → Cs Tryz.prog (GX X) 161 [xP 0 0] [oB 71 (bs (z02 a0))] (z3q r) (z3r r)) (ih_parse_reader_chain_parse_reader_factor : ∀ (a0 : z00) (a2 : (List ByteArray)) (a3 : Int) (r : (z00 × z05)), z0a n a0 a2 a3 = some r → Cs Tryz.prog (GX X) 160 [xP 0 0, .fn (.func 174) [.box 0 0] [], xL (List.map z1j a2), xI a3] [oB 71 (bs (z02 a0))] (z0y r) (z0z r)) (ih_parse_reader_factor : ∀ (a0 : z00) (r : (z00 × z05)), z0j n a0 = some r → Cs Tryz.prog (GX X) 174 [xP 0 0] [oB 71 (bs (z02 a0))] (z34 r) (z35 r)) (ih_parse_reader_negated : ∀ (a0 : z00) (r : (z00 × z05)), z1f n a0 = some r → Cs Tryz.prog (GX X) 183 [xP 0 0] [oB 71 (bs (z02 a0))] (z3h r) (z3i r)) (ih_parse_reader_parens : ∀ (a0 : z00) (r : (z00 × z05)), z1i n a0 = some r → Cs Tryz.prog (GX X) 184 [xP 0 0] [oB 71 (bs (z02 a0))] (z3m r) (z3n r)) (a0 : z00) (r : (z00 × z05)) (h : z1h (n + 1) a0 = some r) : Cs Tryz.prog (GX X) 141 [xP 0 0] [oB 71 (bs (z02 a0))] (z2o r) (z2p r) := by
 refine fnT (cx := cx X) Tryz.f141 Tryz.call141 Tryz.func141 (by kernel_rfl) ?_
 rw [z1h] at h
 obtain ⟨v1, k1, h⟩ := z06 h
 obtain rfl := retE h
 exact fin (ok X) 5 [.s (z17 v1) (z18 v1)] (pA (ih_parse_reader_chain_parse_reader_term _ _ _ _ k1) pT) (by kernel_rfl)

theorem za2 {n : Nat} (ih_parse_reader_expr : ∀ (a0 : z00) (r : (z00 × z05)), z1h n a0 = some r → Cs Tryz.prog (GX X) 141 [xP 0 0] [oB 71 (bs (z02 a0))] (z2o r) (z2p r)) (ih_parse_reader_chain_parse_reader_term : ∀ (a0 : z00) (a2 : (List ByteArray)) (a3 : Int) (r : (z00 × z05)), z0c n a0 a2 a3 = some r → Cs Tryz.prog (GX X) 160 [xP 0 0, .fn (.func 161) [.box 0 0] [], xL (List.map z1j a2), xI a3] [oB 71 (bs (z02 a0))] (z17 r) (z18 r)) (ih_parse_reader_term : ∀ (a0 : z00) (r : (z00 × z05)), z1e n a0 = some r → Cs Tryz.prog (GX X) 161 [xP 0 0] [oB 71 (bs (z02 a0))] (z3q r) (z3r r)) (ih_parse_reader_chain_parse_reader_factor : ∀ (a0 : z00) (a2 : (List ByteArray)) (a3 : Int) (r : (z00 × z05)), z0a n a0 a2 a3 = some r → Cs Tryz.prog (GX X) 160 [xP 0 0, .fn (.func 174) [.box 0 0] [], xL (List.map z1j a2), xI a3] [oB 71 (bs (z02 a0))] (z0y r) (z0z r)) (ih_parse_reader_factor : ∀ (a0 : z00) (r : (z00 × z05)), z0j n a0 = some r → Cs Tryz.prog (GX X) 174 [xP 0 0] [oB 71 (bs (z02 a0))] (z34 r) (z35 r)) (ih_parse_reader_negated : ∀ (a0 : z00) (r : (z00 × z05)), z1f n a0 = some r → Cs Tryz.prog (GX X) 183 [xP 0 0] [oB 71 (bs (z02 a0))] (z3h r) (z3i r)) (ih_parse_reader_parens : ∀ (a0 : z00) (r : (z00 × z05)), z1i n a0 = some r → Cs Tryz.prog (GX X) 184 [xP 0 0] [oB 71 (bs (z02 a0))] (z3m r) (z3n r)) (a0 : z00) (a2 : (List ByteArray)) (a3 : Int) (r : (z00 × z05)) (h : z0c (n + 1) a0 a2 a3 = some r) : Cs Tryz.prog (GX X) 160 [xP 0 0, .fn (.func 161) [.box 0 0] [], xL (List.map z1j a2), xI a3] [oB 71 (bs (z02 a0))] (z17 r) (z18 r) := by
 refine fnT (cx := cx X) Tryz.f160 Tryz.call160 Tryz.func160 (by kernel_rfl) ?_
 rw [z0c] at h
 obtain ⟨v1, k1, h⟩ := z06 h
 refine adv (ok X) 5 [.s (z3q v1) (z3r v1)] (pA (ih_parse_reader_term _ _ k1) pT) (by kernel_rfl) ?_
 refine lp (ok X) (z2t (z1h n) (z0c n) (z1e n) (z0a n) (z0j n) (z1f n) (z1i n) a2 a3) (fun (x1 : ((List z0e) × Int × Int × Int × Int × Int × Int × Int × ByteArray × (List z05))) => ⟨32, 1, [(0, [xP 0 0]), (1, [.fn (.func 161) [.box 0 0] []]), (2, [xL (List.map z1j a2)]), (3, [xI a3]), (8, [xP 1 0]), (9, [xP 2 0])], [oB 71 (bs (z02 (z00.mk x1.1 x1.2.1 x1.2.2.1 x1.2.2.2.1 x1.2.2.2.2.1 x1.2.2.2.2.2.1))), oB 103 [.pv (.int .i64 0), .pv (.int .i64 0), .pv (.str (ByteArray.mk #[])), .emp], oB 103 (bs (z38 (z05.mk x1.2.2.2.2.2.2.1 x1.2.2.2.2.2.2.2.1 x1.2.2.2.2.2.2.2.2.1 x1.2.2.2.2.2.2.2.2.2)))]⟩) (fun (j1 : ((List z0e) × Int × Int × Int × Int × Int × Int × Int × ByteArray × (List z05))) => ⟨32, 1, [(8, [xP 1 0]), (9, [xP 2 0])], [oB 71 (bs (z02 (z00.mk j1.1 j1.2.1 j1.2.2.1 j1.2.2.2.1 j1.2.2.2.2.1 j1.2.2.2.2.2.1))), oB 103 [.pv (.int .i64 0), .pv (.int .i64 0), .pv (.str (ByteArray.mk #[])), .emp], oB 103 (bs (z38 (z05.mk j1.2.2.2.2.2.2.1 j1.2.2.2.2.2.2.2.1 j1.2.2.2.2.2.2.2.2.1 j1.2.2.2.2.2.2.2.2.2)))]⟩) z9x (v1.1.f_l, v1.1.f_end, v1.1.f_e, v1.1.f_at, v1.1.f_deep, v1.1.f_in, v1.2.Kind, v1.2.Num, v1.2.Name, v1.2.Kids) (fun _ => ⟨_, _, _, _, rfl⟩) h (by kernel_rfl) (fun x1 o h => ?_) (fun r' h => ?_) (fun j1 h => ?_)
 ·unfold z2t at h
  rcases iteE h with ⟨k2, h⟩ | ⟨k2, h⟩
  ·obtain ⟨v2, k3, h⟩ := z06 h
   refine adv (ok X) 11 [.b true, .s (z78 v2) (z79 v2)] (pA k2 (pA (z8h (X := X) k3) pT)) (by kernel_rfl) ?_
   rcases iteE h with ⟨k4, h⟩ | ⟨k4, h⟩
   ·obtain rfl := retE h
    exact fin (ok X) 2 [.b true] (pA k4 pT) (by kernel_rfl)
   ·obtain ⟨v3, k5, h⟩ := z06 h
    obtain rfl := retE h
    exact fin (ok X) 4 [.b false, .o [0, 1, 2, 3, 4, 5, 6, 7, 8], .s (z3q v3) (z3r v3), .bl (List.map z14 [(z05.mk x1.2.2.2.2.2.2.1 x1.2.2.2.2.2.2.2.1 x1.2.2.2.2.2.2.2.2.1 x1.2.2.2.2.2.2.2.2.2), v3.2])] (pA k4 (pA (ih_parse_reader_term _ _ k5) (pA (blc (e := z14) (x := (z05.mk x1.2.2.2.2.2.2.1 x1.2.2.2.2.2.2.2.1 x1.2.2.2.2.2.2.2.2.1 x1.2.2.2.2.2.2.2.2.2)) (z5v _).symm (blc (e := z14) (x := v3.2) (z5v _).symm (bl0 z14))) pT))) (by kernel_rfl)
  ·obtain rfl := retE h
   exact fin (ok X) 5 [.b false] (pA k2 pT) (by kernel_rfl)
 ·cases h
 ·obtain rfl := retE h
  exact fin (ok X) 3 [] pT (by kernel_rfl)

theorem zis {n : Nat} (ih_parse_reader_expr : ∀ (a0 : z00) (r : (z00 × z05)), z1h n a0 = some r → Cs Tryz.prog (GX X) 141 [xP 0 0] [oB 71 (bs (z02 a0))] (z2o r) (z2p r)) (ih_parse_reader_chain_parse_reader_term : ∀ (a0 : z00) (a2 : (List ByteArray)) (a3 : Int) (r : (z00 × z05)), z0c n a0 a2 a3 = some r → Cs Tryz.prog (GX X) 160 [xP 0 0, .fn (.func 161) [.box 0 0] [], xL (List.map z1j a2), xI a3] [oB 71 (bs (z02 a0))] (z17 r) (z18 r)) (ih_parse_reader_term : ∀ (a0 : z00) (r : (z00 × z05)), z1e n a0 = some r → Cs Tryz.prog (GX X) 161 [xP 0 0] [oB 71 (bs (z02 a0))] (z3q r) (z3r r)) (ih_parse_reader_chain_parse_reader_factor : ∀ (a0 : z00) (a2 : (List ByteArray)) (a3 : Int) (r : (z00 × z05)), z0a n a0 a2 a3 = some r → Cs Tryz.prog (GX X) 160 [xP 0 0, .fn (.func 174) [.box 0 0] [], xL (List.map z1j a2), xI a3] [oB 71 (bs (z02 a0))] (z0y r) (z0z r)) (ih_parse_reader_factor : ∀ (a0 : z00) (r : (z00 × z05)), z0j n a0 = some r → Cs Tryz.prog (GX X) 174 [xP 0 0] [oB 71 (bs (z02 a0))] (z34 r) (z35 r)) (ih_parse_reader_negated : ∀ (a0 : z00) (r : (z00 × z05)), z1f n a0 = some r → Cs Tryz.prog (GX X) 183 [xP 0 0] [oB 71 (bs (z02 a0))] (z3h r) (z3i r)) (ih_parse_reader_parens : ∀ (a0 : z00) (r : (z00 × z05)), z1i n a0 = some r → Cs Tryz.prog (GX X) 184 [xP 0 0] [oB 71 (bs (z02 a0))] (z3m r) (z3n r)) (a0 : z00) (r : (z00 × z05)) (h : z1e (n + 1) a0 = some r) : Cs Tryz.prog (GX X) 161 [xP 0 0] [oB 71 (bs (z02 a0))] (z3q r) (z3r r) := by
 refine fnT (cx := cx X) Tryz.f161 Tryz.call161 Tryz.func161 (by kernel_rfl) ?_
 rw [z1e] at h
 obtain ⟨v1, k1, h⟩ := z06 h
 obtain rfl := retE h
 exact fin (ok X) 5 [.s (z0y v1) (z0z v1)] (pA (ih_parse_reader_chain_parse_reader_factor _ _ _ _ k1) pT) (by kernel_rfl)

theorem z9g {n : Nat} (ih_parse_reader_expr : ∀ (a0 : z00) (r : (z00 × z05)), z1h n a0 = some r → Cs Tryz.prog (GX X) 141 [xP 0 0] [oB 71 (bs (z02 a0))] (z2o r) (z2p r)) (ih_parse_reader_chain_parse_reader_term : ∀ (a0 : z00) (a2 : (List ByteArray)) (a3 : Int) (r : (z00 × z05)), z0c n a0 a2 a3 = some r → Cs Tryz.prog (GX X) 160 [xP 0 0, .fn (.func 161) [.box 0 0] [], xL (List.map z1j a2), xI a3] [oB 71 (bs (z02 a0))] (z17 r) (z18 r)) (ih_parse_reader_term : ∀ (a0 : z00) (r : (z00 × z05)), z1e n a0 = some r → Cs Tryz.prog (GX X) 161 [xP 0 0] [oB 71 (bs (z02 a0))] (z3q r) (z3r r)) (ih_parse_reader_chain_parse_reader_factor : ∀ (a0 : z00) (a2 : (List ByteArray)) (a3 : Int) (r : (z00 × z05)), z0a n a0 a2 a3 = some r → Cs Tryz.prog (GX X) 160 [xP 0 0, .fn (.func 174) [.box 0 0] [], xL (List.map z1j a2), xI a3] [oB 71 (bs (z02 a0))] (z0y r) (z0z r)) (ih_parse_reader_factor : ∀ (a0 : z00) (r : (z00 × z05)), z0j n a0 = some r → Cs Tryz.prog (GX X) 174 [xP 0 0] [oB 71 (bs (z02 a0))] (z34 r) (z35 r)) (ih_parse_reader_negated : ∀ (a0 : z00) (r : (z00 × z05)), z1f n a0 = some r → Cs Tryz.prog (GX X) 183 [xP 0 0] [oB 71 (bs (z02 a0))] (z3h r) (z3i r)) (ih_parse_reader_parens : ∀ (a0 : z00) (r : (z00 × z05)), z1i n a0 = some r → Cs Tryz.prog (GX X) 184 [xP 0 0] [oB 71 (bs (z02 a0))] (z3m r) (z3n r)) (a0 : z00) (a2 : (List ByteArray)) (a3 : Int) (r : (z00 × z05)) (h : z0a (n + 1) a0 a2 a3 = some r) : Cs Tryz.prog (GX X) 160 [xP 0 0, .fn (.func 174) [.box 0 0] [], xL (List.map z1j a2), xI a3] [oB 71 (bs (z02 a0))] (z0y r) (z0z r) := by
 refine fnT (cx := cx X) Tryz.f160 Tryz.call160 Tryz.func160 (by kernel_rfl) ?_
 rw [z0a] at h
 obtain ⟨v1, k1, h⟩ := z06 h
 refine adv (ok X) 5 [.s (z34 v1) (z35 v1)] (pA (ih_parse_reader_factor _ _ k1) pT) (by kernel_rfl) ?_
 refine lp (ok X) (z2d (z1h n) (z0c n) (z1e n) (z0a n) (z0j n) (z1f n) (z1i n) a2 a3) (fun (x1 : ((List z0e) × Int × Int × Int × Int × Int × Int × Int × ByteArray × (List z05))) => ⟨32, 1, [(0, [xP 0 0]), (1, [.fn (.func 174) [.box 0 0] []]), (2, [xL (List.map z1j a2)]), (3, [xI a3]), (8, [xP 1 0]), (9, [xP 2 0])], [oB 71 (bs (z02 (z00.mk x1.1 x1.2.1 x1.2.2.1 x1.2.2.2.1 x1.2.2.2.2.1 x1.2.2.2.2.2.1))), oB 103 [.pv (.int .i64 0), .pv (.int .i64 0), .pv (.str (ByteArray.mk #[])), .emp], oB 103 (bs (z38 (z05.mk x1.2.2.2.2.2.2.1 x1.2.2.2.2.2.2.2.1 x1.2.2.2.2.2.2.2.2.1 x1.2.2.2.2.2.2.2.2.2)))]⟩) (fun (j1 : ((List z0e) × Int × Int × Int × Int × Int × Int × Int × ByteArray × (List z05))) => ⟨32, 1, [(8, [xP 1 0]), (9, [xP 2 0])], [oB 71 (bs (z02 (z00.mk j1.1 j1.2.1 j1.2.2.1 j1.2.2.2.1 j1.2.2.2.2.1 j1.2.2.2.2.2.1))), oB 103 [.pv (.int .i64 0), .pv (.int .i64 0), .pv (.str (ByteArray.mk #[])), .emp], oB 103 (bs (z38 (z05.mk j1.2.2.2.2.2.2.1 j1.2.2.2.2.2.2.2.1 j1.2.2.2.2.2.2.2.2.1 j1.2.2.2.2.2.2.2.2.2)))]⟩) z9f (v1.1.f_l, v1.1.f_end, v1.1.f_e, v1.1.f_at, v1.1.f_deep, v1.1.f_in, v1.2.Kind, v1.2.Num, v1.2.Name, v1.2.Kids) (fun _ => ⟨_, _, _, _, rfl⟩) h (by kernel_rfl) (fun x1 o h => ?_) (fun r' h => ?_) (fun j1 h => ?_)
 ·unfold z2d at h
  rcases iteE h with ⟨k2, h⟩ | ⟨k2, h⟩
  ·obtain ⟨v2, k3, h⟩ := z06 h
   refine adv (ok X) 11 [.b true, .s (z78 v2) (z79 v2)] (pA k2 (pA (z8h (X := X) k3) pT)) (by kernel_rfl) ?_
   rcases iteE h with ⟨k4, h⟩ | ⟨k4, h⟩
   ·obtain rfl := retE h
    exact fin (ok X) 2 [.b true] (pA k4 pT) (by kernel_rfl)
   ·obtain ⟨v3, k5, h⟩ := z06 h
    obtain rfl := retE h
    exact fin (ok X) 4 [.b false, .o [0, 1, 2, 3, 4, 5, 6, 7, 8], .s (z34 v3) (z35 v3), .bl (List.map z14 [(z05.mk x1.2.2.2.2.2.2.1 x1.2.2.2.2.2.2.2.1 x1.2.2.2.2.2.2.2.2.1 x1.2.2.2.2.2.2.2.2.2), v3.2])] (pA k4 (pA (ih_parse_reader_factor _ _ k5) (pA (blc (e := z14) (x := (z05.mk x1.2.2.2.2.2.2.1 x1.2.2.2.2.2.2.2.1 x1.2.2.2.2.2.2.2.2.1 x1.2.2.2.2.2.2.2.2.2)) (z5v _).symm (blc (e := z14) (x := v3.2) (z5v _).symm (bl0 z14))) pT))) (by kernel_rfl)
  ·obtain rfl := retE h
   exact fin (ok X) 5 [.b false] (pA k2 pT) (by kernel_rfl)
 ·cases h
 ·obtain rfl := retE h
  exact fin (ok X) 3 [] pT (by kernel_rfl)

theorem zgw {n : Nat} (ih_parse_reader_expr : ∀ (a0 : z00) (r : (z00 × z05)), z1h n a0 = some r → Cs Tryz.prog (GX X) 141 [xP 0 0] [oB 71 (bs (z02 a0))] (z2o r) (z2p r)) (ih_parse_reader_chain_parse_reader_term : ∀ (a0 : z00) (a2 : (List ByteArray)) (a3 : Int) (r : (z00 × z05)), z0c n a0 a2 a3 = some r → Cs Tryz.prog (GX X) 160 [xP 0 0, .fn (.func 161) [.box 0 0] [], xL (List.map z1j a2), xI a3] [oB 71 (bs (z02 a0))] (z17 r) (z18 r)) (ih_parse_reader_term : ∀ (a0 : z00) (r : (z00 × z05)), z1e n a0 = some r → Cs Tryz.prog (GX X) 161 [xP 0 0] [oB 71 (bs (z02 a0))] (z3q r) (z3r r)) (ih_parse_reader_chain_parse_reader_factor : ∀ (a0 : z00) (a2 : (List ByteArray)) (a3 : Int) (r : (z00 × z05)), z0a n a0 a2 a3 = some r → Cs Tryz.prog (GX X) 160 [xP 0 0, .fn (.func 174) [.box 0 0] [], xL (List.map z1j a2), xI a3] [oB 71 (bs (z02 a0))] (z0y r) (z0z r)) (ih_parse_reader_factor : ∀ (a0 : z00) (r : (z00 × z05)), z0j n a0 = some r → Cs Tryz.prog (GX X) 174 [xP 0 0] [oB 71 (bs (z02 a0))] (z34 r) (z35 r)) (ih_parse_reader_negated : ∀ (a0 : z00) (r : (z00 × z05)), z1f n a0 = some r → Cs Tryz.prog (GX X) 183 [xP 0 0] [oB 71 (bs (z02 a0))] (z3h r) (z3i r)) (ih_parse_reader_parens : ∀ (a0 : z00) (r : (z00 × z05)), z1i n a0 = some r → Cs Tryz.prog (GX X) 184 [xP 0 0] [oB 71 (bs (z02 a0))] (z3m r) (z3n r)) (a0 : z00) (r : (z00 × z05)) (h : z0j (n + 1) a0 = some r) : Cs Tryz.prog (GX X) 174 [xP 0 0] [oB 71 (bs (z02 a0))] (z34 r) (z35 r) := by
 refine fnT (cx := cx X) Tryz.f174 Tryz.call174 Tryz.func174 (by kernel_rfl) ?_
 rw [z0j] at h
 obtain ⟨v1, k1, h⟩ := z06 h
 refine adv (ok X) 6 [.s (z54 v1) (z55 a0 v1)] (pA (z5w (X := X) k1) pT) (by kernel_rfl) ?_
 rcases iteE h with ⟨k2, h⟩ | ⟨k2, h⟩
 ·obtain ⟨v2, k3, h⟩ := z06 h
  obtain rfl := retE h
  exact fin (ok X) 4 [.b true, .s (z3h v2) (z3i v2)] (pA k2 (pA (ih_parse_reader_negated _ _ k3) pT)) (by kernel_rfl)
 ·obtain ⟨v3, k4, h⟩ := z06 h
  refine adv (ok X) 3 [.b false, .s (z54 v3) (z55 a0 v3)] (pA k2 (pA (z5w (X := X) k4) pT)) (by kernel_rfl) ?_
  rcases iteE h with ⟨k5, h⟩ | ⟨k5, h⟩
  ·obtain ⟨v4, k6, h⟩ := z06 h
   obtain rfl := retE h
   exact fin (ok X) 4 [.b true, .s (z3m v4) (z3n v4)] (pA k5 (pA (ih_parse_reader_parens _ _ k6) pT)) (by kernel_rfl)
  ·obtain ⟨v5, k7, h⟩ := z06 h
   refine adv (ok X) 3 [.b false, .s (z9v v5) (z9w a0 v5)] (pA k5 (pA (zci (X := X) k7) pT)) (by kernel_rfl) ?_
   rcases iteE h with ⟨k8, h⟩ | ⟨k8, h⟩
   ·obtain ⟨v6, k9, h⟩ := z06 h
    obtain rfl := retE h
    exact fin (ok X) 4 [.b true, .s (z6t v6) (z6u v6)] (pA k8 (pA (z8b (X := X) k9) pT)) (by kernel_rfl)
   ·obtain ⟨v7, k10, h⟩ := z06 h
    obtain rfl := retE h
    exact fin (ok X) 6 [.b false, .s (z1w v7) (z1x v7)] (pA k8 (pA (z27 (X := X) k10) pT)) (by kernel_rfl)

theorem zg7 {n : Nat} (ih_parse_reader_expr : ∀ (a0 : z00) (r : (z00 × z05)), z1h n a0 = some r → Cs Tryz.prog (GX X) 141 [xP 0 0] [oB 71 (bs (z02 a0))] (z2o r) (z2p r)) (ih_parse_reader_chain_parse_reader_term : ∀ (a0 : z00) (a2 : (List ByteArray)) (a3 : Int) (r : (z00 × z05)), z0c n a0 a2 a3 = some r → Cs Tryz.prog (GX X) 160 [xP 0 0, .fn (.func 161) [.box 0 0] [], xL (List.map z1j a2), xI a3] [oB 71 (bs (z02 a0))] (z17 r) (z18 r)) (ih_parse_reader_term : ∀ (a0 : z00) (r : (z00 × z05)), z1e n a0 = some r → Cs Tryz.prog (GX X) 161 [xP 0 0] [oB 71 (bs (z02 a0))] (z3q r) (z3r r)) (ih_parse_reader_chain_parse_reader_factor : ∀ (a0 : z00) (a2 : (List ByteArray)) (a3 : Int) (r : (z00 × z05)), z0a n a0 a2 a3 = some r → Cs Tryz.prog (GX X) 160 [xP 0 0, .fn (.func 174) [.box 0 0] [], xL (List.map z1j a2), xI a3] [oB 71 (bs (z02 a0))] (z0y r) (z0z r)) (ih_parse_reader_factor : ∀ (a0 : z00) (r : (z00 × z05)), z0j n a0 = some r → Cs Tryz.prog (GX X) 174 [xP 0 0] [oB 71 (bs (z02 a0))] (z34 r) (z35 r)) (ih_parse_reader_negated : ∀ (a0 : z00) (r : (z00 × z05)), z1f n a0 = some r → Cs Tryz.prog (GX X) 183 [xP 0 0] [oB 71 (bs (z02 a0))] (z3h r) (z3i r)) (ih_parse_reader_parens : ∀ (a0 : z00) (r : (z00 × z05)), z1i n a0 = some r → Cs Tryz.prog (GX X) 184 [xP 0 0] [oB 71 (bs (z02 a0))] (z3m r) (z3n r)) (a0 : z00) (r : (z00 × z05)) (h : z1f (n + 1) a0 = some r) : Cs Tryz.prog (GX X) 183 [xP 0 0] [oB 71 (bs (z02 a0))] (z3h r) (z3i r) := by
 refine fnT (cx := cx X) Tryz.f183 Tryz.call183 Tryz.func183 (by kernel_rfl) ?_
 rw [z1f] at h
 obtain ⟨v1, k1, h⟩ := z06 h
 refine adv (ok X) 5 [.s (za6 v1) (za7 v1)] (pA (zd8 (X := X) k1) pT) (by kernel_rfl) ?_
 rcases iteE h with ⟨k2, h⟩ | ⟨k2, h⟩
 ·obtain rfl := retE h
  exact fin (ok X) 4 [.b true] (pA k2 pT) (by kernel_rfl)
 ·obtain ⟨v2, k3, h⟩ := z06 h
  obtain ⟨v3, k4, h⟩ := z06 h
  obtain rfl := retE h
  exact fin (ok X) 11 [.b false, .s (z0p v2) (z0q v2), .s (z34 v3) (z35 v3), .bl (List.map z14 [v3.2])] (pA k2 (pA (z0u (X := X) k3) (pA (ih_parse_reader_factor _ _ k4) (pA (blc (e := z14) (x := v3.2) (z5v _).symm (bl0 z14)) pT)))) (by kernel_rfl)

theorem zgx {n : Nat} (ih_parse_reader_expr : ∀ (a0 : z00) (r : (z00 × z05)), z1h n a0 = some r → Cs Tryz.prog (GX X) 141 [xP 0 0] [oB 71 (bs (z02 a0))] (z2o r) (z2p r)) (ih_parse_reader_chain_parse_reader_term : ∀ (a0 : z00) (a2 : (List ByteArray)) (a3 : Int) (r : (z00 × z05)), z0c n a0 a2 a3 = some r → Cs Tryz.prog (GX X) 160 [xP 0 0, .fn (.func 161) [.box 0 0] [], xL (List.map z1j a2), xI a3] [oB 71 (bs (z02 a0))] (z17 r) (z18 r)) (ih_parse_reader_term : ∀ (a0 : z00) (r : (z00 × z05)), z1e n a0 = some r → Cs Tryz.prog (GX X) 161 [xP 0 0] [oB 71 (bs (z02 a0))] (z3q r) (z3r r)) (ih_parse_reader_chain_parse_reader_factor : ∀ (a0 : z00) (a2 : (List ByteArray)) (a3 : Int) (r : (z00 × z05)), z0a n a0 a2 a3 = some r → Cs Tryz.prog (GX X) 160 [xP 0 0, .fn (.func 174) [.box 0 0] [], xL (List.map z1j a2), xI a3] [oB 71 (bs (z02 a0))] (z0y r) (z0z r)) (ih_parse_reader_factor : ∀ (a0 : z00) (r : (z00 × z05)), z0j n a0 = some r → Cs Tryz.prog (GX X) 174 [xP 0 0] [oB 71 (bs (z02 a0))] (z34 r) (z35 r)) (ih_parse_reader_negated : ∀ (a0 : z00) (r : (z00 × z05)), z1f n a0 = some r → Cs Tryz.prog (GX X) 183 [xP 0 0] [oB 71 (bs (z02 a0))] (z3h r) (z3i r)) (ih_parse_reader_parens : ∀ (a0 : z00) (r : (z00 × z05)), z1i n a0 = some r → Cs Tryz.prog (GX X) 184 [xP 0 0] [oB 71 (bs (z02 a0))] (z3m r) (z3n r)) (a0 : z00) (r : (z00 × z05)) (h : z1i (n + 1) a0 = some r) : Cs Tryz.prog (GX X) 184 [xP 0 0] [oB 71 (bs (z02 a0))] (z3m r) (z3n r) := by
 refine fnT (cx := cx X) Tryz.f184 Tryz.call184 Tryz.func184 (by kernel_rfl) ?_
 rw [z1i] at h
 obtain ⟨v1, k1, h⟩ := z06 h
 refine adv (ok X) 5 [.s (za6 v1) (za7 v1)] (pA (zd8 (X := X) k1) pT) (by kernel_rfl) ?_
 rcases iteE h with ⟨k2, h⟩ | ⟨k2, h⟩
 ·obtain rfl := retE h
  exact fin (ok X) 4 [.b true] (pA k2 pT) (by kernel_rfl)
 ·obtain ⟨v2, k3, h⟩ := z06 h
  obtain ⟨v3, k4, h⟩ := z06 h
  obtain ⟨v4, k5, h⟩ := z06 h
  obtain rfl := retE h
  exact fin (ok X) 13 [.b false, .s (z0p v2) (z0q v2), .s (z2o v3) (z2p v3), .s (z0p v4) (z0q v4)] (pA k2 (pA (z0u (X := X) k3) (pA (ih_parse_reader_expr _ _ k4) (pA (z0u (X := X) k5) pT)))) (by kernel_rfl)

theorem zcz : ∀ n : Nat, (∀ (a0 : z00) (r : (z00 × z05)), z1h n a0 = some r → Cs Tryz.prog (GX X) 141 [xP 0 0] [oB 71 (bs (z02 a0))] (z2o r) (z2p r)) ∧ (∀ (a0 : z00) (a2 : (List ByteArray)) (a3 : Int) (r : (z00 × z05)), z0c n a0 a2 a3 = some r → Cs Tryz.prog (GX X) 160 [xP 0 0, .fn (.func 161) [.box 0 0] [], xL (List.map z1j a2), xI a3] [oB 71 (bs (z02 a0))] (z17 r) (z18 r)) ∧ (∀ (a0 : z00) (r : (z00 × z05)), z1e n a0 = some r → Cs Tryz.prog (GX X) 161 [xP 0 0] [oB 71 (bs (z02 a0))] (z3q r) (z3r r)) ∧ (∀ (a0 : z00) (a2 : (List ByteArray)) (a3 : Int) (r : (z00 × z05)), z0a n a0 a2 a3 = some r → Cs Tryz.prog (GX X) 160 [xP 0 0, .fn (.func 174) [.box 0 0] [], xL (List.map z1j a2), xI a3] [oB 71 (bs (z02 a0))] (z0y r) (z0z r)) ∧ (∀ (a0 : z00) (r : (z00 × z05)), z0j n a0 = some r → Cs Tryz.prog (GX X) 174 [xP 0 0] [oB 71 (bs (z02 a0))] (z34 r) (z35 r)) ∧ (∀ (a0 : z00) (r : (z00 × z05)), z1f n a0 = some r → Cs Tryz.prog (GX X) 183 [xP 0 0] [oB 71 (bs (z02 a0))] (z3h r) (z3i r)) ∧ (∀ (a0 : z00) (r : (z00 × z05)), z1i n a0 = some r → Cs Tryz.prog (GX X) 184 [xP 0 0] [oB 71 (bs (z02 a0))] (z3m r) (z3n r))
 | 0 => ⟨(fun _ _ h => by rw [z1h] at h; cases h), (fun _ _ _ _ h => by rw [z0c] at h; cases h), (fun _ _ h => by rw [z1e] at h; cases h), (fun _ _ _ _ h => by rw [z0a] at h; cases h), (fun _ _ h => by rw [z0j] at h; cases h), (fun _ _ h => by rw [z1f] at h; cases h), (fun _ _ h => by rw [z1i] at h; cases h)⟩
 | n + 1 => by
  have ih := zcz n
  exact ⟨zir ih.1 ih.2.1 ih.2.2.1 ih.2.2.2.1 ih.2.2.2.2.1 ih.2.2.2.2.2.1 ih.2.2.2.2.2.2, za2 ih.1 ih.2.1 ih.2.2.1 ih.2.2.2.1 ih.2.2.2.2.1 ih.2.2.2.2.2.1 ih.2.2.2.2.2.2, zis ih.1 ih.2.1 ih.2.2.1 ih.2.2.2.1 ih.2.2.2.2.1 ih.2.2.2.2.2.1 ih.2.2.2.2.2.2, z9g ih.1 ih.2.1 ih.2.2.1 ih.2.2.2.1 ih.2.2.2.2.1 ih.2.2.2.2.2.1 ih.2.2.2.2.2.2, zgw ih.1 ih.2.1 ih.2.2.1 ih.2.2.2.1 ih.2.2.2.2.1 ih.2.2.2.2.2.1 ih.2.2.2.2.2.2, zg7 ih.1 ih.2.1 ih.2.2.1 ih.2.2.2.1 ih.2.2.2.2.1 ih.2.2.2.2.2.1 ih.2.2.2.2.2.2, zgx ih.1 ih.2.1 ih.2.2.1 ih.2.2.2.1 ih.2.2.2.2.1 ih.2.2.2.2.2.1 ih.2.2.2.2.2.2⟩

theorem z90 {a0 : z00} {r : (z00 × z05)} (h : z5d a0 = some r) : Cs Tryz.prog (GX X) 141 [xP 0 0] [oB 71 (bs (z02 a0))] (z2o r) (z2p r) := by
 obtain ⟨n, hn⟩ := unfE h
 exact (zcz n).1 _ _ hn

theorem zit {a0 : z00} {r : (z00 × z04)} (h : z7k a0 = some r) : Cs Tryz.prog (GX X) 118 [xP 0 0] [oB 71 (bs (z02 a0))] (ze2 r) (ze3 r) := by
 refine fnT (cx := cx X) Tryz.f118 Tryz.call118 Tryz.func118 (by kernel_rfl) ?_
 unfold z7k at h
 obtain ⟨v1, k1, h⟩ := z06 h
 obtain ⟨v2, k2, h⟩ := z06 h
 obtain ⟨v3, k3, h⟩ := z06 h
 obtain ⟨v4, k4, h⟩ := z06 h
 obtain ⟨v5, k5, h⟩ := z06 h
 obtain ⟨v6, k6, h⟩ := z06 h
 obtain ⟨v7, k7, h⟩ := z06 h
 obtain rfl := retE h
 exact fin (ok X) 19 [.s (z1w v1) (z1x v1), .s (z0p v2) (z0q v2), .s (z1w v3) (z1x v3), .s (z0p v4) (z0q v4), .s (z2o v5) (z2p v5), .s (z0p v6) (z0q v6), .s (z0p v7) (z0q v7)] (pA (z27 (X := X) k1) (pA (z0u (X := X) k2) (pA (z27 (X := X) k3) (pA (z0u (X := X) k4) (pA (z90 (X := X) k5) (pA (z0u (X := X) k6) (pA (z0u (X := X) k7) pT))))))) (by kernel_rfl)

theorem zat {a0 : z00} {r : (z00 × z41)} (h : z5e a0 = some r) : Cs Tryz.prog (GX X) 139 [xP 0 0] [oB 71 (bs (z02 a0))] (z8w r) (z8x r) := by
 refine fnT (cx := cx X) Tryz.f139 Tryz.call139 Tryz.func139 (by kernel_rfl) ?_
 unfold z5e at h
 obtain ⟨v1, k1, h⟩ := z06 h
 obtain ⟨v2, k2, h⟩ := z06 h
 obtain ⟨v3, k3, h⟩ := z06 h
 refine adv (ok X) 11 [.s (z0p v1) (z0q v1), .s (z2o v2) (z2p v2), .s (z78 v3) (z79 v3)] (pA (z0u (X := X) k1) (pA (z90 (X := X) k2) (pA (z8h (X := X) k3) pT))) (by kernel_rfl) ?_
 rcases iteE h with ⟨k4, h⟩ | ⟨k4, h⟩
 ·obtain ⟨v4, k5, h⟩ := z06 h
  obtain rfl := retE h
  exact fin (ok X) 6 [.b true, .s (z56 v4) (z57 v4)] (pA k4 (pA (z5x (X := X) k5) pT)) (by kernel_rfl)
 ·obtain ⟨v5, k6, h⟩ := z06 h
  obtain ⟨v6, k7, h⟩ := z06 h
  obtain rfl := retE h
  exact fin (ok X) 11 [.b false, .s (z2o v5) (z2p v5), .s (z0p v6) (z0q v6)] (pA k4 (pA (z90 (X := X) k6) (pA (z0u (X := X) k7) pT))) (by kernel_rfl)

theorem zgy {a0 : z00} {r : (z00 × z04)} (h : z6j a0 = some r) : Cs Tryz.prog (GX X) 120 [xP 0 0] [oB 71 (bs (z02 a0))] (zcv r) (zcw r) := by
 refine fnT (cx := cx X) Tryz.f120 Tryz.call120 Tryz.func120 (by kernel_rfl) ?_
 unfold z6j at h
 obtain ⟨v1, k1, h⟩ := z06 h
 obtain ⟨v2, k2, h⟩ := z06 h
 obtain rfl := retE h
 exact fin (ok X) 9 [.s (z8w v1) (z8x v1), .s (z0p v2) (z0q v2)] (pA (zat (X := X) k1) (pA (z0u (X := X) k2) pT)) (by kernel_rfl)

theorem zhp {a0 : z00} {r : (z00 × z04)} (h : z6y a0 = some r) : Cs Tryz.prog (GX X) 121 [xP 0 0] [oB 71 (bs (z02 a0))] (zd5 r) (zd6 r) := by
 refine fnT (cx := cx X) Tryz.f121 Tryz.call121 Tryz.func121 (by kernel_rfl) ?_
 unfold z6y at h
 obtain ⟨v1, k1, h⟩ := z06 h
 obtain ⟨v2, k2, h⟩ := z06 h
 obtain rfl := retE h
 exact fin (ok X) 9 [.s (z1w v1) (z1x v1), .s (z0p v2) (z0q v2)] (pA (z27 (X := X) k1) (pA (z0u (X := X) k2) pT)) (by kernel_rfl)

theorem zgz {a0 : z00} {r : (z00 × z04)} (h : z6k a0 = some r) : Cs Tryz.prog (GX X) 122 [xP 0 0] [oB 71 (bs (z02 a0))] (zcx r) (zcy r) := by
 refine fnT (cx := cx X) Tryz.f122 Tryz.call122 Tryz.func122 (by kernel_rfl) ?_
 unfold z6k at h
 obtain ⟨v1, k1, h⟩ := z06 h
 obtain ⟨v2, k2, h⟩ := z06 h
 obtain ⟨v3, k3, h⟩ := z06 h
 obtain ⟨v4, k4, h⟩ := z06 h
 obtain rfl := retE h
 exact fin (ok X) 13 [.s (z1w v1) (z1x v1), .s (z0p v2) (z0q v2), .s (z2o v3) (z2p v3), .s (z0p v4) (z0q v4)] (pA (z27 (X := X) k1) (pA (z0u (X := X) k2) (pA (z90 (X := X) k3) (pA (z0u (X := X) k4) pT)))) (by kernel_rfl)

theorem zhq {n : Nat} (ih_parse_reader_stmts : ∀ (a0 : z00) (r : (z00 × (List z04))), z1b n a0 = some r → Cs Tryz.prog (GX X) 61 [xP 0 0] [oB 71 (bs (z02 a0))] (z2z r) (z30 r)) (ih_parse_reader_stmt : ∀ (a0 : z00) (r : (z00 × z04 × Bool)), z0r n a0 = some r → Cs Tryz.prog (GX X) 98 [xP 0 0] [oB 71 (bs (z02 a0))] (z4c r) (z4d r)) (ih_parse_reader_conditional : ∀ (a0 : z00) (r : (z00 × z04)), z10 n a0 = some r → Cs Tryz.prog (GX X) 116 [xP 0 0] [oB 71 (bs (z02 a0))] (z2q r) (z2r r)) (ih_parse_reader_loop : ∀ (a0 : z00) (r : (z00 × z04)), z1y n a0 = some r → Cs Tryz.prog (GX X) 117 [xP 0 0] [oB 71 (bs (z02 a0))] (z4e r) (z4f r)) (ih_parse_reader_recv : ∀ (a0 : z00) (r : (z00 × z04)), z1s n a0 = some r → Cs Tryz.prog (GX X) 119 [xP 0 0] [oB 71 (bs (z02 a0))] (z3s r) (z3t r)) (ih_parse_reader_block : ∀ (a0 : z00) (r : (z00 × (List z04))), z0k n a0 = some r → Cs Tryz.prog (GX X) 140 [xP 0 0] [oB 71 (bs (z02 a0))] (z31 r) (z32 r)) (ih_parse_reader_arm : ∀ (a0 : z00) (r : (z00 × z13)), z1g n a0 = some r → Cs Tryz.prog (GX X) 142 [xP 0 0] [oB 71 (bs (z02 a0))] (z44 r) (z45 r)) (a0 : z00) (r : (z00 × (List z04))) (h : z1b (n + 1) a0 = some r) : Cs Tryz.prog (GX X) 61 [xP 0 0] [oB 71 (bs (z02 a0))] (z2z r) (z30 r) := by
 refine fnT (cx := cx X) Tryz.f61 Tryz.call61 Tryz.func61 (by kernel_rfl) ?_
 rw [z1b] at h
 refine adv (ok X) 4 [] pT (by kernel_rfl) ?_
 refine lp (ok X) (z86 (z1b n) (z0r n) (z10 n) (z1y n) (z1s n) (z0k n) (z1g n)) (fun (x1 : ((List z0e) × Int × Int × Int × Int × Int × (List z04))) => ⟨18, 1, [(0, [xP 0 0]), (3, [xR 1])], [oB 71 (bs (z02 (z00.mk x1.1 x1.2.1 x1.2.2.1 x1.2.2.2.1 x1.2.2.2.2.1 x1.2.2.2.2.2.1))), oR true 108 19 (List.map z16 x1.2.2.2.2.2.2)]⟩) (fun (j1 : Unit) => ⟨18, 1, [], [none]⟩) zho (a0.f_l, a0.f_end, a0.f_e, a0.f_at, a0.f_deep, a0.f_in, []) (fun _ => ⟨_, _, _, _, rfl⟩) h (by kernel_rfl) (fun x1 o h => ?_) (fun r' h => ?_) (fun j1 h => ?_)
 ·unfold z86 at h
  obtain ⟨v1, k1, h⟩ := z06 h
  refine adv (ok X) 6 [.s (z4c v1) (z4d v1)] (pA (ih_parse_reader_stmt _ _ k1) pT) (by kernel_rfl) ?_
  rcases iteE h with ⟨k2, h⟩ | ⟨k2, h⟩
  ·obtain rfl := retE h
   exact fin (ok X) 4 [.b true] (pA k2 pT) (by kernel_rfl)
  ·obtain ⟨v2, k3, h⟩ := z06 h
   obtain rfl := retE h
   exact fin (ok X) 4 [.b false, .bl (List.map z16 [v1.2.1]), .l (List.map z16 v2)] (pA k2 (pA (blc (e := z16) (x := v1.2.1) (z43 _).symm (bl0 z16)) (pA (apm (L := x1.2.2.2.2.2.2) (M := [v1.2.1]) zhz k3) pT))) (by kernel_rfl)
 ·obtain rfl := retE h
  kernel_rfl
 ·cases h

theorem ziu {n : Nat} (ih_parse_reader_stmts : ∀ (a0 : z00) (r : (z00 × (List z04))), z1b n a0 = some r → Cs Tryz.prog (GX X) 61 [xP 0 0] [oB 71 (bs (z02 a0))] (z2z r) (z30 r)) (ih_parse_reader_stmt : ∀ (a0 : z00) (r : (z00 × z04 × Bool)), z0r n a0 = some r → Cs Tryz.prog (GX X) 98 [xP 0 0] [oB 71 (bs (z02 a0))] (z4c r) (z4d r)) (ih_parse_reader_conditional : ∀ (a0 : z00) (r : (z00 × z04)), z10 n a0 = some r → Cs Tryz.prog (GX X) 116 [xP 0 0] [oB 71 (bs (z02 a0))] (z2q r) (z2r r)) (ih_parse_reader_loop : ∀ (a0 : z00) (r : (z00 × z04)), z1y n a0 = some r → Cs Tryz.prog (GX X) 117 [xP 0 0] [oB 71 (bs (z02 a0))] (z4e r) (z4f r)) (ih_parse_reader_recv : ∀ (a0 : z00) (r : (z00 × z04)), z1s n a0 = some r → Cs Tryz.prog (GX X) 119 [xP 0 0] [oB 71 (bs (z02 a0))] (z3s r) (z3t r)) (ih_parse_reader_block : ∀ (a0 : z00) (r : (z00 × (List z04))), z0k n a0 = some r → Cs Tryz.prog (GX X) 140 [xP 0 0] [oB 71 (bs (z02 a0))] (z31 r) (z32 r)) (ih_parse_reader_arm : ∀ (a0 : z00) (r : (z00 × z13)), z1g n a0 = some r → Cs Tryz.prog (GX X) 142 [xP 0 0] [oB 71 (bs (z02 a0))] (z44 r) (z45 r)) (a0 : z00) (r : (z00 × z04 × Bool)) (h : z0r (n + 1) a0 = some r) : Cs Tryz.prog (GX X) 98 [xP 0 0] [oB 71 (bs (z02 a0))] (z4c r) (z4d r) := by
 refine fnT (cx := cx X) Tryz.f98 Tryz.call98 Tryz.func98 (by kernel_rfl) ?_
 rw [z0r] at h
 obtain ⟨v1, k1, h⟩ := z06 h
 refine adv (ok X) 6 [.s (z2m v1) (z2n v1)] (pA (z2y (X := X) k1) pT) (by kernel_rfl) ?_
 rcases iteE h with ⟨k2, h⟩ | ⟨k2, h⟩
 ·obtain ⟨v2, k3, h⟩ := z06 h
  obtain rfl := retE h
  exact fin (ok X) 4 [.b true, .s (z2q v2) (z2r v2)] (pA k2 (pA (ih_parse_reader_conditional _ _ k3) pT)) (by kernel_rfl)
 ·obtain ⟨v3, k4, h⟩ := z06 h
  refine adv (ok X) 3 [.b false, .s (z2m v3) (z2n v3)] (pA k2 (pA (z2y (X := X) k4) pT)) (by kernel_rfl) ?_
  rcases iteE h with ⟨k5, h⟩ | ⟨k5, h⟩
  ·obtain ⟨v4, k6, h⟩ := z06 h
   obtain rfl := retE h
   exact fin (ok X) 4 [.b true, .s (z4e v4) (z4f v4)] (pA k5 (pA (ih_parse_reader_loop _ _ k6) pT)) (by kernel_rfl)
  ·obtain ⟨v5, k7, h⟩ := z06 h
   refine adv (ok X) 3 [.b false, .s (z2m v5) (z2n v5)] (pA k5 (pA (z2y (X := X) k7) pT)) (by kernel_rfl) ?_
   rcases iteE h with ⟨k8, h⟩ | ⟨k8, h⟩
   ·obtain ⟨v6, k9, h⟩ := z06 h
    obtain rfl := retE h
    exact fin (ok X) 4 [.b true, .s (ze2 v6) (ze3 v6)] (pA k8 (pA (zit (X := X) k9) pT)) (by kernel_rfl)
   ·obtain ⟨v7, k10, h⟩ := z06 h
    refine adv (ok X) 3 [.b false, .s (z2m v7) (z2n v7)] (pA k8 (pA (z2y (X := X) k10) pT)) (by kernel_rfl) ?_
    rcases iteE h with ⟨k11, h⟩ | ⟨k11, h⟩
    ·obtain ⟨v8, k12, h⟩ := z06 h
     obtain rfl := retE h
     exact fin (ok X) 4 [.b true, .s (z3s v8) (z3t v8)] (pA k11 (pA (ih_parse_reader_recv _ _ k12) pT)) (by kernel_rfl)
    ·obtain ⟨v9, k13, h⟩ := z06 h
     refine adv (ok X) 3 [.b false, .s (z2m v9) (z2n v9)] (pA k11 (pA (z2y (X := X) k13) pT)) (by kernel_rfl) ?_
     rcases iteE h with ⟨k14, h⟩ | ⟨k14, h⟩
     ·obtain ⟨v10, k15, h⟩ := z06 h
      obtain rfl := retE h
      exact fin (ok X) 4 [.b true, .s (zcv v10) (zcw v10)] (pA k14 (pA (zgy (X := X) k15) pT)) (by kernel_rfl)
     ·obtain ⟨v11, k16, h⟩ := z06 h
      refine adv (ok X) 3 [.b false, .s (z2m v11) (z2n v11)] (pA k14 (pA (z2y (X := X) k16) pT)) (by kernel_rfl) ?_
      rcases iteE h with ⟨k17, h⟩ | ⟨k17, h⟩
      ·obtain ⟨v12, k18, h⟩ := z06 h
       obtain rfl := retE h
       exact fin (ok X) 4 [.b true, .s (zd5 v12) (zd6 v12)] (pA k17 (pA (zhp (X := X) k18) pT)) (by kernel_rfl)
      ·obtain ⟨v13, k19, h⟩ := z06 h
       refine adv (ok X) 3 [.b false, .s (z9v v13) (z9w v11.1 v13)] (pA k17 (pA (zci (X := X) k19) pT)) (by kernel_rfl) ?_
       rcases iteE h with ⟨k20, h⟩ | ⟨k20, h⟩
       ·obtain ⟨v14, k21, h⟩ := z06 h
        obtain rfl := retE h
        exact fin (ok X) 4 [.b true, .s (zcx v14) (zcy v14)] (pA k20 (pA (zgz (X := X) k21) pT)) (by kernel_rfl)
       ·obtain rfl := retE h
        exact fin (ok X) 6 [.b false] (pA k20 pT) (by kernel_rfl)

theorem zeh {n : Nat} (ih_parse_reader_stmts : ∀ (a0 : z00) (r : (z00 × (List z04))), z1b n a0 = some r → Cs Tryz.prog (GX X) 61 [xP 0 0] [oB 71 (bs (z02 a0))] (z2z r) (z30 r)) (ih_parse_reader_stmt : ∀ (a0 : z00) (r : (z00 × z04 × Bool)), z0r n a0 = some r → Cs Tryz.prog (GX X) 98 [xP 0 0] [oB 71 (bs (z02 a0))] (z4c r) (z4d r)) (ih_parse_reader_conditional : ∀ (a0 : z00) (r : (z00 × z04)), z10 n a0 = some r → Cs Tryz.prog (GX X) 116 [xP 0 0] [oB 71 (bs (z02 a0))] (z2q r) (z2r r)) (ih_parse_reader_loop : ∀ (a0 : z00) (r : (z00 × z04)), z1y n a0 = some r → Cs Tryz.prog (GX X) 117 [xP 0 0] [oB 71 (bs (z02 a0))] (z4e r) (z4f r)) (ih_parse_reader_recv : ∀ (a0 : z00) (r : (z00 × z04)), z1s n a0 = some r → Cs Tryz.prog (GX X) 119 [xP 0 0] [oB 71 (bs (z02 a0))] (z3s r) (z3t r)) (ih_parse_reader_block : ∀ (a0 : z00) (r : (z00 × (List z04))), z0k n a0 = some r → Cs Tryz.prog (GX X) 140 [xP 0 0] [oB 71 (bs (z02 a0))] (z31 r) (z32 r)) (ih_parse_reader_arm : ∀ (a0 : z00) (r : (z00 × z13)), z1g n a0 = some r → Cs Tryz.prog (GX X) 142 [xP 0 0] [oB 71 (bs (z02 a0))] (z44 r) (z45 r)) (a0 : z00) (r : (z00 × z04)) (h : z10 (n + 1) a0 = some r) : Cs Tryz.prog (GX X) 116 [xP 0 0] [oB 71 (bs (z02 a0))] (z2q r) (z2r r) := by
 refine fnT (cx := cx X) Tryz.f116 Tryz.call116 Tryz.func116 (by kernel_rfl) ?_
 rw [z10] at h
 obtain ⟨v1, k1, h⟩ := z06 h
 obtain ⟨v2, k2, h⟩ := z06 h
 obtain ⟨v3, k3, h⟩ := z06 h
 refine adv (ok X) 9 [.s (z8w v1) (z8x v1), .s (z31 v2) (z32 v2), .s (z2m v3) (z2n v3)] (pA (zat (X := X) k1) (pA (ih_parse_reader_block _ _ k2) (pA (z2y (X := X) k3) pT))) (by kernel_rfl) ?_
 rcases iteE h with ⟨k4, h⟩ | ⟨k4, h⟩
 ·obtain ⟨v4, k5, h⟩ := z06 h
  obtain rfl := retE h
  exact fin (ok X) 5 [.b true, .s (z31 v4) (z32 v4)] (pA k4 (pA (ih_parse_reader_block _ _ k5) pT)) (by kernel_rfl)
 ·obtain rfl := retE h
  exact fin (ok X) 5 [.b false] (pA k4 pT) (by kernel_rfl)

theorem ziv {n : Nat} (ih_parse_reader_stmts : ∀ (a0 : z00) (r : (z00 × (List z04))), z1b n a0 = some r → Cs Tryz.prog (GX X) 61 [xP 0 0] [oB 71 (bs (z02 a0))] (z2z r) (z30 r)) (ih_parse_reader_stmt : ∀ (a0 : z00) (r : (z00 × z04 × Bool)), z0r n a0 = some r → Cs Tryz.prog (GX X) 98 [xP 0 0] [oB 71 (bs (z02 a0))] (z4c r) (z4d r)) (ih_parse_reader_conditional : ∀ (a0 : z00) (r : (z00 × z04)), z10 n a0 = some r → Cs Tryz.prog (GX X) 116 [xP 0 0] [oB 71 (bs (z02 a0))] (z2q r) (z2r r)) (ih_parse_reader_loop : ∀ (a0 : z00) (r : (z00 × z04)), z1y n a0 = some r → Cs Tryz.prog (GX X) 117 [xP 0 0] [oB 71 (bs (z02 a0))] (z4e r) (z4f r)) (ih_parse_reader_recv : ∀ (a0 : z00) (r : (z00 × z04)), z1s n a0 = some r → Cs Tryz.prog (GX X) 119 [xP 0 0] [oB 71 (bs (z02 a0))] (z3s r) (z3t r)) (ih_parse_reader_block : ∀ (a0 : z00) (r : (z00 × (List z04))), z0k n a0 = some r → Cs Tryz.prog (GX X) 140 [xP 0 0] [oB 71 (bs (z02 a0))] (z31 r) (z32 r)) (ih_parse_reader_arm : ∀ (a0 : z00) (r : (z00 × z13)), z1g n a0 = some r → Cs Tryz.prog (GX X) 142 [xP 0 0] [oB 71 (bs (z02 a0))] (z44 r) (z45 r)) (a0 : z00) (r : (z00 × z04)) (h : z1y (n + 1) a0 = some r) : Cs Tryz.prog (GX X) 117 [xP 0 0] [oB 71 (bs (z02 a0))] (z4e r) (z4f r) := by
 refine fnT (cx := cx X) Tryz.f117 Tryz.call117 Tryz.func117 (by kernel_rfl) ?_
 rw [z1y] at h
 obtain ⟨v1, k1, h⟩ := z06 h
 obtain ⟨v2, k2, h⟩ := z06 h
 obtain rfl := retE h
 exact fin (ok X) 9 [.s (z8w v1) (z8x v1), .s (z31 v2) (z32 v2)] (pA (zat (X := X) k1) (pA (ih_parse_reader_block _ _ k2) pT)) (by kernel_rfl)

theorem ziw {n : Nat} (ih_parse_reader_stmts : ∀ (a0 : z00) (r : (z00 × (List z04))), z1b n a0 = some r → Cs Tryz.prog (GX X) 61 [xP 0 0] [oB 71 (bs (z02 a0))] (z2z r) (z30 r)) (ih_parse_reader_stmt : ∀ (a0 : z00) (r : (z00 × z04 × Bool)), z0r n a0 = some r → Cs Tryz.prog (GX X) 98 [xP 0 0] [oB 71 (bs (z02 a0))] (z4c r) (z4d r)) (ih_parse_reader_conditional : ∀ (a0 : z00) (r : (z00 × z04)), z10 n a0 = some r → Cs Tryz.prog (GX X) 116 [xP 0 0] [oB 71 (bs (z02 a0))] (z2q r) (z2r r)) (ih_parse_reader_loop : ∀ (a0 : z00) (r : (z00 × z04)), z1y n a0 = some r → Cs Tryz.prog (GX X) 117 [xP 0 0] [oB 71 (bs (z02 a0))] (z4e r) (z4f r)) (ih_parse_reader_recv : ∀ (a0 : z00) (r : (z00 × z04)), z1s n a0 = some r → Cs Tryz.prog (GX X) 119 [xP 0 0] [oB 71 (bs (z02 a0))] (z3s r) (z3t r)) (ih_parse_reader_block : ∀ (a0 : z00) (r : (z00 × (List z04))), z0k n a0 = some r → Cs Tryz.prog (GX X) 140 [xP 0 0] [oB 71 (bs (z02 a0))] (z31 r) (z32 r)) (ih_parse_reader_arm : ∀ (a0 : z00) (r : (z00 × z13)), z1g n a0 = some r → Cs Tryz.prog (GX X) 142 [xP 0 0] [oB 71 (bs (z02 a0))] (z44 r) (z45 r)) (a0 : z00) (r : (z00 × z04)) (h : z1s (n + 1) a0 = some r) : Cs Tryz.prog (GX X) 119 [xP 0 0] [oB 71 (bs (z02 a0))] (z3s r) (z3t r) := by
 refine fnT (cx := cx X) Tryz.f119 Tryz.call119 Tryz.func119 (by kernel_rfl) ?_
 rw [z1s] at h
 obtain ⟨v1, k1, h⟩ := z06 h
 obtain ⟨v2, k2, h⟩ := z06 h
 obtain ⟨v3, k3, h⟩ := z06 h
 obtain ⟨v4, k4, h⟩ := z06 h
 refine adv (ok X) 9 [.s (z1w v1) (z1x v1), .s (z0p v2) (z0q v2), .o [0, 1, 2, 3, 4, 5, 6, 7], .s (z44 v3) (z45 v3), .bl (List.map z2h [v3.2]), .l (List.map z2h v4)] (pA (z27 (X := X) k1) (pA (z0u (X := X) k2) (pA (ih_parse_reader_arm _ _ k3) (pA (blc (e := z2h) (x := v3.2) (zax _).symm (bl0 z2h)) (pA (apm (L := []) (M := [v3.2]) zfk k4) pT))))) (by kernel_rfl) ?_
 refine lp (ok X) (z6b (z1b n) (z0r n) (z10 n) (z1y n) (z1s n) (z0k n) (z1g n)) (fun (x1 : ((List z0e) × Int × Int × Int × Int × Int × (List z13))) => ⟨36, 1, [(0, [xP 0 0]), (2, [xP 1 0]), (3, [xP 2 0])], [oB 71 (bs (z02 (z00.mk x1.1 x1.2.1 x1.2.2.1 x1.2.2.2.1 x1.2.2.2.2.1 x1.2.2.2.2.2.1))), oB 108 [.pv (.int .i64 0), .pv (.str (ByteArray.mk #[])), .pv (.str (ByteArray.mk #[])), .pv (.int .i64 0), .pv (.int .i64 0), .pv (.str (ByteArray.mk #[])), .emp, .pv (.int .i64 0), .pv (.int .i64 0), .pv (.int .i64 0), .pv (.str (ByteArray.mk #[])), .emp, .pv (.int .i64 0), .pv (.int .i64 0), .pv (.str (ByteArray.mk #[])), .emp, .emp, .emp, .emp], oB 108 [.pv (.int .i64 5), .pv (.str v1.2), .pv (.str (ByteArray.mk #[])), .pv (.int .i64 0), .pv (.int .i64 0), .pv (.str (ByteArray.mk #[])), .emp, .pv (.int .i64 0), .pv (.int .i64 0), .pv (.int .i64 0), .pv (.str (ByteArray.mk #[])), .emp, .pv (.int .i64 0), .pv (.int .i64 0), .pv (.str (ByteArray.mk #[])), .emp, .emp, .emp, .row 3], oR true 156 3 (List.map z2h x1.2.2.2.2.2.2)]⟩) (fun (j1 : ((List z0e) × Int × Int × Int × Int × Int × (List z13))) => ⟨36, 1, [(0, [xP 0 0]), (2, [xP 1 0]), (3, [xP 2 0])], [oB 71 (bs (z02 (z00.mk j1.1 j1.2.1 j1.2.2.1 j1.2.2.2.1 j1.2.2.2.2.1 j1.2.2.2.2.2.1))), oB 108 [.pv (.int .i64 0), .pv (.str (ByteArray.mk #[])), .pv (.str (ByteArray.mk #[])), .pv (.int .i64 0), .pv (.int .i64 0), .pv (.str (ByteArray.mk #[])), .emp, .pv (.int .i64 0), .pv (.int .i64 0), .pv (.int .i64 0), .pv (.str (ByteArray.mk #[])), .emp, .pv (.int .i64 0), .pv (.int .i64 0), .pv (.str (ByteArray.mk #[])), .emp, .emp, .emp, .emp], oB 108 [.pv (.int .i64 5), .pv (.str v1.2), .pv (.str (ByteArray.mk #[])), .pv (.int .i64 0), .pv (.int .i64 0), .pv (.str (ByteArray.mk #[])), .emp, .pv (.int .i64 0), .pv (.int .i64 0), .pv (.int .i64 0), .pv (.str (ByteArray.mk #[])), .emp, .pv (.int .i64 0), .pv (.int .i64 0), .pv (.str (ByteArray.mk #[])), .emp, .emp, .emp, .row 3], oR true 156 3 (List.map z2h j1.2.2.2.2.2.2)]⟩) zin (v3.1.f_l, v3.1.f_end, v3.1.f_e, v3.1.f_at, v3.1.f_deep, v3.1.f_in, v4) (fun _ => ⟨_, _, _, _, rfl⟩) h (by kernel_rfl) (fun x1 o h => ?_) (fun r' h => ?_) (fun j1 h => ?_)
 ·unfold z6b at h
  refine adv (ok X) 2 [] pT (by kernel_rfl) ?_
  refine jn (ok X) 1 (fun (j2 : Bool) => ⟨36, 1, [(0, [xP 0 0]), (2, [xP 1 0]), (3, [xP 2 0]), (25, [xB j2])], [oB 71 (bs (z02 (z00.mk x1.1 x1.2.1 x1.2.2.1 x1.2.2.2.1 x1.2.2.2.2.1 x1.2.2.2.2.2.1))), oB 108 [.pv (.int .i64 0), .pv (.str (ByteArray.mk #[])), .pv (.str (ByteArray.mk #[])), .pv (.int .i64 0), .pv (.int .i64 0), .pv (.str (ByteArray.mk #[])), .emp, .pv (.int .i64 0), .pv (.int .i64 0), .pv (.int .i64 0), .pv (.str (ByteArray.mk #[])), .emp, .pv (.int .i64 0), .pv (.int .i64 0), .pv (.str (ByteArray.mk #[])), .emp, .emp, .emp, .emp], oB 108 [.pv (.int .i64 5), .pv (.str v1.2), .pv (.str (ByteArray.mk #[])), .pv (.int .i64 0), .pv (.int .i64 0), .pv (.str (ByteArray.mk #[])), .emp, .pv (.int .i64 0), .pv (.int .i64 0), .pv (.int .i64 0), .pv (.str (ByteArray.mk #[])), .emp, .pv (.int .i64 0), .pv (.int .i64 0), .pv (.str (ByteArray.mk #[])), .emp, .emp, .emp, .row 3], oR true 156 3 (List.map z2h x1.2.2.2.2.2.2)]⟩) h (fun j2 h => ?_) (fun j2 h => ?_)
  ·rcases iteE h with ⟨k5, h⟩ | ⟨k5, h⟩
   ·obtain ⟨v5, k6, h⟩ := z06 h
    obtain rfl := retE h
    exact fin (ok X) 1 [.b true, .b true, .s (z54 v5) (z55 (z00.mk x1.1 x1.2.1 x1.2.2.1 x1.2.2.2.1 x1.2.2.2.2.1 x1.2.2.2.2.2.1) v5), .b true, .b true] (pA k5 (pA k5 (pA (z5w (X := X) k6) (pA k5 (pA k5 pT))))) (by kernel_rfl)
   ·obtain rfl := retE h
    exact fin (ok X) 1 (bF 4 []) (pR 4 k5 pT) (by kernel_rfl)
  ·rcases iteE h with ⟨k7, h⟩ | ⟨k7, h⟩
   ·obtain ⟨v6, k8, h⟩ := z06 h
    obtain ⟨v7, k9, h⟩ := z06 h
    obtain rfl := retE h
    exact fin (ok X) 5 [.b true, .o [0, 1, 2, 3, 4, 5, 6, 7], .s (z44 v6) (z45 v6), .bl (List.map z2h [v6.2]), .l (List.map z2h v7)] (pA k7 (pA (ih_parse_reader_arm _ _ k8) (pA (blc (e := z2h) (x := v6.2) (zax _).symm (bl0 z2h)) (pA (apm (L := x1.2.2.2.2.2.2) (M := [v6.2]) zfk k9) pT)))) (by kernel_rfl)
   ·obtain rfl := retE h
    exact fin (ok X) 2 [.b false] (pA k7 pT) (by kernel_rfl)
 ·cases h
 ·obtain ⟨v8, k10, h⟩ := z06 h
  obtain rfl := retE h
  exact fin (ok X) 5 [.s (z0p v8) (z0q v8)] (pA (z0u (X := X) k10) pT) (by kernel_rfl)

theorem zhr {n : Nat} (ih_parse_reader_stmts : ∀ (a0 : z00) (r : (z00 × (List z04))), z1b n a0 = some r → Cs Tryz.prog (GX X) 61 [xP 0 0] [oB 71 (bs (z02 a0))] (z2z r) (z30 r)) (ih_parse_reader_stmt : ∀ (a0 : z00) (r : (z00 × z04 × Bool)), z0r n a0 = some r → Cs Tryz.prog (GX X) 98 [xP 0 0] [oB 71 (bs (z02 a0))] (z4c r) (z4d r)) (ih_parse_reader_conditional : ∀ (a0 : z00) (r : (z00 × z04)), z10 n a0 = some r → Cs Tryz.prog (GX X) 116 [xP 0 0] [oB 71 (bs (z02 a0))] (z2q r) (z2r r)) (ih_parse_reader_loop : ∀ (a0 : z00) (r : (z00 × z04)), z1y n a0 = some r → Cs Tryz.prog (GX X) 117 [xP 0 0] [oB 71 (bs (z02 a0))] (z4e r) (z4f r)) (ih_parse_reader_recv : ∀ (a0 : z00) (r : (z00 × z04)), z1s n a0 = some r → Cs Tryz.prog (GX X) 119 [xP 0 0] [oB 71 (bs (z02 a0))] (z3s r) (z3t r)) (ih_parse_reader_block : ∀ (a0 : z00) (r : (z00 × (List z04))), z0k n a0 = some r → Cs Tryz.prog (GX X) 140 [xP 0 0] [oB 71 (bs (z02 a0))] (z31 r) (z32 r)) (ih_parse_reader_arm : ∀ (a0 : z00) (r : (z00 × z13)), z1g n a0 = some r → Cs Tryz.prog (GX X) 142 [xP 0 0] [oB 71 (bs (z02 a0))] (z44 r) (z45 r)) (a0 : z00) (r : (z00 × (List z04))) (h : z0k (n + 1) a0 = some r) : Cs Tryz.prog (GX X) 140 [xP 0 0] [oB 71 (bs (z02 a0))] (z31 r) (z32 r) := by
 refine fnT (cx := cx X) Tryz.f140 Tryz.call140 Tryz.func140 (by kernel_rfl) ?_
 rw [z0k] at h
 refine adv (ok X) 4 [] pT (by kernel_rfl) ?_
 refine jn (ok X) 1 (fun (j1 : Bool) => ⟨36, 1, [(0, [xP 0 0]), (12, [xB j1])], [oB 71 (bs (z02 a0))]⟩) h (fun j1 h => ?_) (fun j1 h => ?_)
 ·obtain ⟨v1, k1, h⟩ := z06 h
  rcases iteE h with ⟨k2, h⟩ | ⟨k2, h⟩
  ·obtain rfl := retE h
   exact fin (ok X) 1 (.s (z54 v1) (z55 a0 v1) :: bT 6 []) (pA (z5w (X := X) k1) (pR 6 k2 pT)) (by kernel_rfl)
  ·obtain rfl := retE h
   exact fin (ok X) 1 (.s (z54 v1) (z55 a0 v1) :: bF 6 []) (pA (z5w (X := X) k1) (pR 6 k2 pT)) (by kernel_rfl)
 ·rcases iteE h with ⟨k3, h⟩ | ⟨k3, h⟩
  ·obtain ⟨v2, k4, h⟩ := z06 h
   obtain rfl := retE h
   exact fin (ok X) 6 [.b true, .s (z56 v2) (z57 v2)] (pA k3 (pA (z5x (X := X) k4) pT)) (by kernel_rfl)
  ·obtain ⟨v3, k5, h⟩ := z06 h
   obtain ⟨v4, k6, h⟩ := z06 h
   obtain ⟨v5, k7, h⟩ := z06 h
   obtain rfl := retE h
   exact fin (ok X) 15 [.b false, .s (z0p v3) (z0q v3), .s (z2z v4) (z30 v4), .s (z0p v5) (z0q v5)] (pA k3 (pA (z0u (X := X) k5) (pA (ih_parse_reader_stmts _ _ k6) (pA (z0u (X := X) k7) pT)))) (by kernel_rfl)

theorem zjm {n : Nat} (ih_parse_reader_stmts : ∀ (a0 : z00) (r : (z00 × (List z04))), z1b n a0 = some r → Cs Tryz.prog (GX X) 61 [xP 0 0] [oB 71 (bs (z02 a0))] (z2z r) (z30 r)) (ih_parse_reader_stmt : ∀ (a0 : z00) (r : (z00 × z04 × Bool)), z0r n a0 = some r → Cs Tryz.prog (GX X) 98 [xP 0 0] [oB 71 (bs (z02 a0))] (z4c r) (z4d r)) (ih_parse_reader_conditional : ∀ (a0 : z00) (r : (z00 × z04)), z10 n a0 = some r → Cs Tryz.prog (GX X) 116 [xP 0 0] [oB 71 (bs (z02 a0))] (z2q r) (z2r r)) (ih_parse_reader_loop : ∀ (a0 : z00) (r : (z00 × z04)), z1y n a0 = some r → Cs Tryz.prog (GX X) 117 [xP 0 0] [oB 71 (bs (z02 a0))] (z4e r) (z4f r)) (ih_parse_reader_recv : ∀ (a0 : z00) (r : (z00 × z04)), z1s n a0 = some r → Cs Tryz.prog (GX X) 119 [xP 0 0] [oB 71 (bs (z02 a0))] (z3s r) (z3t r)) (ih_parse_reader_block : ∀ (a0 : z00) (r : (z00 × (List z04))), z0k n a0 = some r → Cs Tryz.prog (GX X) 140 [xP 0 0] [oB 71 (bs (z02 a0))] (z31 r) (z32 r)) (ih_parse_reader_arm : ∀ (a0 : z00) (r : (z00 × z13)), z1g n a0 = some r → Cs Tryz.prog (GX X) 142 [xP 0 0] [oB 71 (bs (z02 a0))] (z44 r) (z45 r)) (a0 : z00) (r : (z00 × z13)) (h : z1g (n + 1) a0 = some r) : Cs Tryz.prog (GX X) 142 [xP 0 0] [oB 71 (bs (z02 a0))] (z44 r) (z45 r) := by
 refine fnT (cx := cx X) Tryz.f142 Tryz.call142 Tryz.func142 (by kernel_rfl) ?_
 rw [z1g] at h
 obtain ⟨v1, k1, h⟩ := z06 h
 obtain ⟨v2, k2, h⟩ := z06 h
 obtain ⟨v3, k3, h⟩ := z06 h
 obtain ⟨v4, k4, h⟩ := z06 h
 obtain ⟨v5, k5, h⟩ := z06 h
 obtain rfl := retE h
 exact fin (ok X) 15 [.s (z1w v1) (z1x v1), .s (z0p v2) (z0q v2), .s (z1w v3) (z1x v3), .s (z0p v4) (z0q v4), .s (z31 v5) (z32 v5)] (pA (z27 (X := X) k1) (pA (z0u (X := X) k2) (pA (z27 (X := X) k3) (pA (z0u (X := X) k4) (pA (ih_parse_reader_block _ _ k5) pT))))) (by kernel_rfl)

theorem zc5 : ∀ n : Nat, (∀ (a0 : z00) (r : (z00 × (List z04))), z1b n a0 = some r → Cs Tryz.prog (GX X) 61 [xP 0 0] [oB 71 (bs (z02 a0))] (z2z r) (z30 r)) ∧ (∀ (a0 : z00) (r : (z00 × z04 × Bool)), z0r n a0 = some r → Cs Tryz.prog (GX X) 98 [xP 0 0] [oB 71 (bs (z02 a0))] (z4c r) (z4d r)) ∧ (∀ (a0 : z00) (r : (z00 × z04)), z10 n a0 = some r → Cs Tryz.prog (GX X) 116 [xP 0 0] [oB 71 (bs (z02 a0))] (z2q r) (z2r r)) ∧ (∀ (a0 : z00) (r : (z00 × z04)), z1y n a0 = some r → Cs Tryz.prog (GX X) 117 [xP 0 0] [oB 71 (bs (z02 a0))] (z4e r) (z4f r)) ∧ (∀ (a0 : z00) (r : (z00 × z04)), z1s n a0 = some r → Cs Tryz.prog (GX X) 119 [xP 0 0] [oB 71 (bs (z02 a0))] (z3s r) (z3t r)) ∧ (∀ (a0 : z00) (r : (z00 × (List z04))), z0k n a0 = some r → Cs Tryz.prog (GX X) 140 [xP 0 0] [oB 71 (bs (z02 a0))] (z31 r) (z32 r)) ∧ (∀ (a0 : z00) (r : (z00 × z13)), z1g n a0 = some r → Cs Tryz.prog (GX X) 142 [xP 0 0] [oB 71 (bs (z02 a0))] (z44 r) (z45 r))
 | 0 => ⟨(fun _ _ h => by rw [z1b] at h; cases h), (fun _ _ h => by rw [z0r] at h; cases h), (fun _ _ h => by rw [z10] at h; cases h), (fun _ _ h => by rw [z1y] at h; cases h), (fun _ _ h => by rw [z1s] at h; cases h), (fun _ _ h => by rw [z0k] at h; cases h), (fun _ _ h => by rw [z1g] at h; cases h)⟩
 | n + 1 => by
  have ih := zc5 n
  exact ⟨zhq ih.1 ih.2.1 ih.2.2.1 ih.2.2.2.1 ih.2.2.2.2.1 ih.2.2.2.2.2.1 ih.2.2.2.2.2.2, ziu ih.1 ih.2.1 ih.2.2.1 ih.2.2.2.1 ih.2.2.2.2.1 ih.2.2.2.2.2.1 ih.2.2.2.2.2.2, zeh ih.1 ih.2.1 ih.2.2.1 ih.2.2.2.1 ih.2.2.2.2.1 ih.2.2.2.2.2.1 ih.2.2.2.2.2.2, ziv ih.1 ih.2.1 ih.2.2.1 ih.2.2.2.1 ih.2.2.2.2.1 ih.2.2.2.2.2.1 ih.2.2.2.2.2.2, ziw ih.1 ih.2.1 ih.2.2.1 ih.2.2.2.1 ih.2.2.2.2.1 ih.2.2.2.2.2.1 ih.2.2.2.2.2.2, zhr ih.1 ih.2.1 ih.2.2.1 ih.2.2.2.1 ih.2.2.2.2.1 ih.2.2.2.2.2.1 ih.2.2.2.2.2.2, zjm ih.1 ih.2.1 ih.2.2.1 ih.2.2.2.1 ih.2.2.2.2.1 ih.2.2.2.2.2.1 ih.2.2.2.2.2.2⟩

theorem zhs {a0 : z00} {r : (z00 × (List z04))} (h : z6z a0 = some r) : Cs Tryz.prog (GX X) 61 [xP 0 0] [oB 71 (bs (z02 a0))] (z2z r) (z30 r) := by
 obtain ⟨n, hn⟩ := unfE h
 exact (zc5 n).1 _ _ hn

theorem zix {a0 : z00} {r : (z00 × z3f)} (h : z7l a0 = some r) : Cs Tryz.prog (GX X) 23 [xP 0 0] [oB 71 (bs (z02 a0))] (zaq r) (zar r) := by
 refine fnT (cx := cx X) Tryz.f23 Tryz.call23 Tryz.func23 (by kernel_rfl) ?_
 unfold z7l at h
 obtain ⟨v1, k1, h⟩ := z06 h
 obtain ⟨v2, k2, h⟩ := z06 h
 refine adv (ok X) 7 [.s (z1w v1) (z1x v1), .s (z0p v2) (z0q v2)] (pA (z27 (X := X) k1) (pA (z0u (X := X) k2) pT)) (by kernel_rfl) ?_
 refine lp (ok X) (z3k) (fun (x1 : ((List z0e) × Int × Int × Int × Int × Int × (List ByteArray))) => ⟨26, 1, [(0, [xP 0 0]), (2, [xP 1 0]), (3, [xP 2 0])], [oB 71 (bs (z02 (z00.mk x1.1 x1.2.1 x1.2.2.1 x1.2.2.2.1 x1.2.2.2.2.1 x1.2.2.2.2.2.1))), oB 81 [.pv (.str (ByteArray.mk #[])), .emp, .emp], oB 81 [.pv (.str v1.2), .row 3, .emp], oR true 9 1 (List.map z1j x1.2.2.2.2.2.2)]⟩) (fun (j1 : ((List z0e) × Int × Int × Int × Int × Int × (List ByteArray))) => ⟨26, 1, [(0, [xP 0 0]), (2, [xP 1 0]), (3, [xP 2 0])], [oB 71 (bs (z02 (z00.mk j1.1 j1.2.1 j1.2.2.1 j1.2.2.2.1 j1.2.2.2.2.1 j1.2.2.2.2.2.1))), oB 81 [.pv (.str (ByteArray.mk #[])), .emp, .emp], oB 81 [.pv (.str v1.2), .row 3, .emp], oR true 9 1 (List.map z1j j1.2.2.2.2.2.2)]⟩) zio (v2.f_l, v2.f_end, v2.f_e, v2.f_at, v2.f_deep, v2.f_in, []) (fun _ => ⟨_, _, _, _, rfl⟩) h (by kernel_rfl) (fun x1 o h => ?_) (fun r' h => ?_) (fun j1 h => ?_)
 ·unfold z3k at h
  obtain ⟨v3, k3, h⟩ := z06 h
  refine adv (ok X) 3 [.s (z2m v3) (z2n v3)] (pA (z2y (X := X) k3) pT) (by kernel_rfl) ?_
  rcases iteE h with ⟨k4, h⟩ | ⟨k4, h⟩
  ·obtain ⟨v4, k5, h⟩ := z06 h
   obtain ⟨v5, k6, h⟩ := z06 h
   obtain ⟨v6, k7, h⟩ := z06 h
   obtain rfl := retE h
   exact fin (ok X) 7 [.b true, .o [0, 1, 2, 3, 4, 5, 6, 7], .s (z1w v4) (z1x v4), .l (List.map z1j v5), .s (z0p v6) (z0q v6)] (pA k4 (pA (z27 (X := X) k5) (pA (apm (L := x1.2.2.2.2.2.2) (M := [v4.2]) z1q k6) (pA (z0u (X := X) k7) pT)))) (by kernel_rfl)
  ·obtain rfl := retE h
   exact fin (ok X) 2 [.b false] (pA k4 pT) (by kernel_rfl)
 ·cases h
 ·obtain ⟨v7, k8, h⟩ := z06 h
  obtain ⟨v8, k9, h⟩ := z06 h
  obtain rfl := retE h
  exact fin (ok X) 7 [.s (z2z v7) (z30 v7), .s (z0p v8) (z0q v8)] (pA (zhs (X := X) k8) (pA (z0u (X := X) k9) pT)) (by kernel_rfl)

theorem zdl {a0 : ByteArray} {r : (z22 × Int × Int)} (h : z8y a0 = some r) : Cv Tryz.prog (GX X) 9 [xS a0] (z8z r) := by
 refine Cs.toV (?_ : Cs Tryz.prog (GX X) 9 [xS a0] [] (z8z r) (zji r)) (by kernel_rfl)
 refine fnT (cx := cx X) Tryz.f9 Tryz.call9 Tryz.func9 (by kernel_rfl) ?_
 unfold z8y at h
 obtain ⟨v1, k1, h⟩ := z06 h
 refine adv (ok X) 7 [.c (zjh v1)] (pA (zyl (X := X) k1) pT) (by kernel_rfl) ?_
 rcases iteE h with ⟨k2, h⟩ | ⟨k2, h⟩
 ·obtain rfl := retE h
  exact fin (ok X) 4 [.b true] (pA k2 pT) (by kernel_rfl)
 ·refine adv (ok X) 7 [.b false] (pA k2 pT) (by kernel_rfl) ?_
  refine lp (ok X) (z6p) (fun (x1 : ((List z0e) × Int × Int × Int × Int × Int × (List z33))) => ⟨76, 0, [(2, [xP 0 0]), (8, [xP 1 0]), (9, [xP 2 0])], [oB 26 [.emp, .emp, .emp], oB 71 (bs (z02 (z00.mk x1.1 x1.2.1 x1.2.2.1 x1.2.2.2.1 x1.2.2.2.2.1 x1.2.2.2.2.2.1))), oB 26 [.row 3, .emp, .emp], oR true 73 6 (List.map z2k x1.2.2.2.2.2.2)]⟩) (fun (j1 : ((List z0e) × Int × Int × Int × Int × Int × (List z33))) => ⟨76, 0, [(2, [xP 0 0]), (8, [xP 1 0]), (9, [xP 2 0])], [oB 26 [.emp, .emp, .emp], oB 71 (bs (z02 (z00.mk j1.1 j1.2.1 j1.2.2.1 j1.2.2.2.1 j1.2.2.2.2.1 j1.2.2.2.2.2.1))), oB 26 [.row 3, .emp, .emp], oR true 73 6 (List.map z2k j1.2.2.2.2.2.2)]⟩) zfu (v1.1, (a0.size : Int), 0, 0, 0, 0, []) (fun _ => ⟨_, _, _, _, rfl⟩) h (by kernel_rfl) (fun x1 o h => ?_) (fun r' h => ?_) (fun j1 h => ?_)
  ·unfold z6p at h
   obtain ⟨v2, k3, h⟩ := z06 h
   refine adv (ok X) 3 [.s (z2m v2) (z2n v2)] (pA (z2y (X := X) k3) pT) (by kernel_rfl) ?_
   rcases iteE h with ⟨k4, h⟩ | ⟨k4, h⟩
   ·obtain ⟨v3, k5, h⟩ := z06 h
    obtain ⟨v4, k6, h⟩ := z06 h
    obtain rfl := retE h
    exact fin (ok X) 5 [.b true, .o [0, 1, 2, 3, 4, 5, 6, 7], .s (z9b v3) (z9c v3), .l (List.map z2k v4)] (pA k4 (pA (zg6 (X := X) k5) (pA (apm (L := x1.2.2.2.2.2.2) (M := [v3.2]) zi1 k6) pT))) (by kernel_rfl)
   ·obtain rfl := retE h
    exact fin (ok X) 2 [.b false] (pA k4 pT) (by kernel_rfl)
  ·cases h
  ·refine adv (ok X) 1 [] pT (by kernel_rfl) ?_
   refine lp (ok X) (z6q) (fun (x2 : ((List z0e) × Int × Int × Int × Int × Int × (List z3b))) => ⟨76, 0, [(2, [xP 0 0]), (8, [xP 1 0]), (9, [xP 2 0])], [oB 26 [.emp, .emp, .emp], oB 71 (bs (z02 (z00.mk x2.1 x2.2.1 x2.2.2.1 x2.2.2.2.1 x2.2.2.2.2.1 x2.2.2.2.2.2.1))), oB 26 [.row 3, .row 4, .emp], oR true 73 6 (List.map z2k j1.2.2.2.2.2.2), oR true 77 2 (List.map z36 x2.2.2.2.2.2.2)]⟩) (fun (j2 : ((List z0e) × Int × Int × Int × Int × Int × (List z3b))) => ⟨76, 0, [(2, [xP 0 0]), (8, [xP 1 0]), (9, [xP 2 0])], [oB 26 [.emp, .emp, .emp], oB 71 (bs (z02 (z00.mk j2.1 j2.2.1 j2.2.2.1 j2.2.2.2.1 j2.2.2.2.2.1 j2.2.2.2.2.2.1))), oB 26 [.row 3, .row 4, .emp], oR true 73 6 (List.map z2k j1.2.2.2.2.2.2), oR true 77 2 (List.map z36 j2.2.2.2.2.2.2)]⟩) zfu (j1.1, j1.2.1, j1.2.2.1, j1.2.2.2.1, j1.2.2.2.2.1, j1.2.2.2.2.2.1, []) (fun _ => ⟨_, _, _, _, rfl⟩) h (by kernel_rfl) (fun x2 o h => ?_) (fun r' h => ?_) (fun j2 h => ?_)
   ·unfold z6q at h
    obtain ⟨v5, k7, h⟩ := z06 h
    refine adv (ok X) 3 [.s (z2m v5) (z2n v5)] (pA (z2y (X := X) k7) pT) (by kernel_rfl) ?_
    rcases iteE h with ⟨k8, h⟩ | ⟨k8, h⟩
    ·obtain ⟨v6, k9, h⟩ := z06 h
     obtain ⟨v7, k10, h⟩ := z06 h
     obtain rfl := retE h
     exact fin (ok X) 5 [.b true, .o [0, 1, 2, 3, 4, 5, 6, 7], .s (zao v6) (zap v6), .l (List.map z36 v7)] (pA k8 (pA (ziq (X := X) k9) (pA (apm (L := x2.2.2.2.2.2.2) (M := [v6.2]) zi3 k10) pT))) (by kernel_rfl)
    ·obtain rfl := retE h
     exact fin (ok X) 2 [.b false] (pA k8 pT) (by kernel_rfl)
   ·cases h
   ·refine adv (ok X) 1 [] pT (by kernel_rfl) ?_
    refine lp (ok X) (z63) (fun (x3 : ((List z0e) × Int × Int × Int × Int × Int × (List z3f))) => ⟨76, 0, [(2, [xP 0 0]), (8, [xP 1 0]), (9, [xP 2 0])], [oB 26 [.emp, .emp, .emp], oB 71 (bs (z02 (z00.mk x3.1 x3.2.1 x3.2.2.1 x3.2.2.2.1 x3.2.2.2.2.1 x3.2.2.2.2.2.1))), oB 26 [.row 3, .row 4, .row 5], oR true 73 6 (List.map z2k j1.2.2.2.2.2.2), oR true 77 2 (List.map z36 j2.2.2.2.2.2.2), oR true 81 3 (List.map z0v x3.2.2.2.2.2.2)]⟩) (fun (j3 : ((List z0e) × Int × Int × Int × Int × Int × (List z3f))) => ⟨76, 0, [(2, [xP 0 0]), (8, [xP 1 0]), (9, [xP 2 0])], [oB 26 [.emp, .emp, .emp], oB 71 (bs (z02 (z00.mk j3.1 j3.2.1 j3.2.2.1 j3.2.2.2.1 j3.2.2.2.2.1 j3.2.2.2.2.2.1))), oB 26 [.row 3, .row 4, .row 5], oR true 73 6 (List.map z2k j1.2.2.2.2.2.2), oR true 77 2 (List.map z36 j2.2.2.2.2.2.2), oR true 81 3 (List.map z0v j3.2.2.2.2.2.2)]⟩) zfu (j2.1, j2.2.1, j2.2.2.1, j2.2.2.2.1, j2.2.2.2.2.1, j2.2.2.2.2.2.1, []) (fun _ => ⟨_, _, _, _, rfl⟩) h (by kernel_rfl) (fun x3 o h => ?_) (fun r' h => ?_) (fun j3 h => ?_)
    ·unfold z63 at h
     obtain ⟨v8, k11, h⟩ := z06 h
     refine adv (ok X) 3 [.s (z2m v8) (z2n v8)] (pA (z2y (X := X) k11) pT) (by kernel_rfl) ?_
     rcases iteE h with ⟨k12, h⟩ | ⟨k12, h⟩
     ·obtain ⟨v9, k13, h⟩ := z06 h
      obtain ⟨v10, k14, h⟩ := z06 h
      obtain rfl := retE h
      exact fin (ok X) 5 [.b true, .o [0, 1, 2, 3, 4, 5, 6, 7], .s (zaq v9) (zar v9), .l (List.map z0v v10)] (pA k12 (pA (zix (X := X) k13) (pA (apm (L := x3.2.2.2.2.2.2) (M := [v9.2]) zi4 k14) pT))) (by kernel_rfl)
     ·obtain rfl := retE h
      exact fin (ok X) 2 [.b false] (pA k12 pT) (by kernel_rfl)
    ·cases h
    ·refine adv (ok X) 3 [.i (j3.1.length : Int)] (pA (lm z28 j3.1) pT) (by kernel_rfl) ?_
     rcases iteE h with ⟨k15, h⟩ | ⟨k15, h⟩
     ·obtain ⟨v11, k16, h⟩ := z06 h
      refine adv (ok X) 5 [.b true, .s (z56 v11) (z57 v11)] (pA k15 (pA (z5x (X := X) k16) pT)) (by kernel_rfl) ?_
      rcases iteE h with ⟨k17, h⟩ | ⟨k17, h⟩
      ·obtain rfl := retE h
       exact fin (ok X) 4 [.b true, .o [0, 1, 2, 3, 4, 5, 6, 7, 8, 9, 10, 11]] (pA k17 pT) (by kernel_rfl)
      ·obtain rfl := retE h
       exact fin (ok X) 5 [.b false] (pA k17 pT) (by kernel_rfl)
     ·refine adv (ok X) 5 [.b false] (pA k15 pT) (by kernel_rfl) ?_
      rcases iteE h with ⟨k18, h⟩ | ⟨k18, h⟩
      ·obtain rfl := retE h
       exact fin (ok X) 4 [.b true, .o [0, 1, 2, 3, 4, 5, 6, 7, 8, 9, 10, 11]] (pA k18 pT) (by kernel_rfl)
      ·obtain rfl := retE h
       exact fin (ok X) 5 [.b false] (pA k18 pT) (by kernel_rfl)
end Go.Proofs.YtokjbpmjdcbogaaGreatDoor.Abs

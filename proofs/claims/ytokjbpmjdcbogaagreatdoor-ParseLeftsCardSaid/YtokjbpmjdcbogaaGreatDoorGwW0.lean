/- Gw: the functions are these. -/
import Derived.Test.YtokjbpmjdcbogaaGreatDoorGwF
namespace Go.Proofs.YtokjbpmjdcbogaaGreatDoor.Abs
open Go Go.RowKit
set_option linter.unusedVariables false
set_option maxRecDepth 100000
set_option maxHeartbeats 4000000
variable {X : EV}
theorem zqh {a0 : ByteArray} {r : Int × Int} (h : zep a0 = some r) : Cv Tryz.prog (GX X) 94 [xS a0] (zkq r) := zj2 h
theorem zob {a0 : ByteArray} {a1 : Int} {r : Int} (h : zj0 a0 a1 = some r) : Cv Tryz.prog (GX X) 114 [xS a0, .c (.pv (.int .u8 a1))] (ziz r) := zmc h
theorem zax {a0 : Int} {r : Bool} (h : z8i a0 = some r) : Cv Tryz.prog (GX X) 90 [.c (.pv (.int .u8 a0))] (z7u r) := by
 refine Cs.toV (?_ : Cs Tryz.prog (GX X) 90 [.c (.pv (.int .u8 a0))] [] (z7u r) (zhm r)) (by kernel_rfl)
 refine fnT (cx := cx X) Tryz.f90 Tryz.call90 Tryz.func90 (by kernel_rfl) ?_
 unfold z8i at h
 rcases iteE h with ⟨k1, h⟩ | ⟨k1, h⟩
 ·obtain rfl := retE h
  exact fin (ok X) 5 (bT 3 []) (pR 3 k1 pT) (by kernel_rfl)
 ·obtain rfl := retE h
  exact fin (ok X) 5 (bF 3 []) (pR 3 k1 pT) (by kernel_rfl)

theorem zeu {a0 : Int} {r : Bool} (h : z9e a0 = some r) : Cv Tryz.prog (GX X) 93 [.c (.pv (.int .u8 a0))] (z9z r) := by
 refine Cs.toV (?_ : Cs Tryz.prog (GX X) 93 [.c (.pv (.int .u8 a0))] [] (z9z r) (zix r)) (by kernel_rfl)
 refine fnT (cx := cx X) Tryz.f93 Tryz.call93 Tryz.func93 (by kernel_rfl) ?_
 unfold z9e at h
 rcases iteE h with ⟨k1, h⟩ | ⟨k1, h⟩
 ·obtain rfl := retE h
  exact fin (ok X) 5 (bT 3 []) (pR 3 k1 pT) (by kernel_rfl)
 ·obtain rfl := retE h
  exact fin (ok X) 5 (bF 3 []) (pR 3 k1 pT) (by kernel_rfl)

theorem zhs {a0 : ByteArray} {r : Int} (h : zdd a0 = some r) : Cv Tryz.prog (GX X) 92 [xS a0] (zas r) := by
 refine Cs.toV (?_ : Cs Tryz.prog (GX X) 92 [xS a0] [] (zas r) (zhn r)) (by kernel_rfl)
 refine fnT (cx := cx X) Tryz.f92 Tryz.call92 Tryz.func92 (by kernel_rfl) ?_
 unfold zdd at h
 refine adv (ok X) 5 [] pT (by kernel_rfl) ?_
 refine lp (ok X) (z7o a0) (fun (x1 : Int) => ⟨23, 0, [(0, [xS a0]), (3, [xI x1])], []⟩) (fun (j1 : Int) => ⟨23, 0, [(3, [xI j1])], []⟩) zo9 0 (fun _ => ⟨_, _, _, _, rfl⟩) h (by kernel_rfl) (fun x1 o h => ?_) (fun r' h => ?_) (fun j1 h => ?_)
 ·unfold z7o at h
  refine adv (ok X) 2 [] pT (by kernel_rfl) ?_
  refine jn (ok X) 1 (fun (j2 : Bool) => ⟨23, 0, [(0, [xS a0]), (3, [xI x1]), (19, [xB j2])], []⟩) h (fun j2 h => ?_) (fun j2 h => ?_)
  ·rcases iteE h with ⟨k1, h⟩ | ⟨k1, h⟩
   ·obtain ⟨v1, k2, h⟩ := z0b h
    obtain ⟨v2, k3, h⟩ := z0b h
    rcases iteE h with ⟨k4, h⟩ | ⟨k4, h⟩
    ·obtain rfl := retE h
     exact fin (ok X) 1 (bT 3 (.i v1 :: .b true :: .c (z7u v2) :: bT 8 [])) (pR 3 k1 (pA k2 (pA k1 (pA (zax (X := X) k3) (pA k1 (pR 4 k4 (pA k1 (pA k4 (pA k1 pT))))))))) (by kernel_rfl)
    ·obtain ⟨v3, k5, h⟩ := z0b h
     obtain ⟨v4, k6, h⟩ := z0b h
     obtain rfl := retE h
     exact fin (ok X) 1 (bT 3 (.i v1 :: .b true :: .c (z7u v2) :: .b true :: bF 3 [.i v3, .b false, .c (z9z v4), .b true, .b false, .b true])) (pR 3 k1 (pA k2 (pA k1 (pA (zax (X := X) k3) (pA k1 (pR 3 k4 (pA k5 (pA k4 (pA (zeu (X := X) k6) (pA k1 (pA k4 (pA k1 pT)))))))))))) (by kernel_rfl)
   ·obtain rfl := retE h
    exact fin (ok X) 1 (bF 7 []) (pR 7 k1 pT) (by kernel_rfl)
  ·rcases iteE h with ⟨k7, h⟩ | ⟨k7, h⟩
   ·obtain rfl := retE h
    exact fin (ok X) 5 [.b true] (pA k7 pT) (by kernel_rfl)
   ·obtain rfl := retE h
    exact fin (ok X) 2 [.b false] (pA k7 pT) (by kernel_rfl)
 ·cases h
 ·obtain rfl := retE h
  exact fin (ok X) 3 [] pT (by kernel_rfl)

theorem zf9 {a0 : ByteArray} {r : Bool} (h : z7v a0 = some r) : Cv Tryz.prog (GX X) 111 [xS a0] (z98 r) := by
 refine Cs.toV (?_ : Cs Tryz.prog (GX X) 111 [xS a0] [] (z98 r) (zf4 r)) (by kernel_rfl)
 refine fnT (cx := cx X) Tryz.f111 Tryz.call111 Tryz.func111 (by kernel_rfl) ?_
 unfold z7v at h
 rcases iteE h with ⟨k1, h⟩ | ⟨k1, h⟩
 ·obtain rfl := retE h
  exact fin (ok X) 15 [.b true, .b true] (pA k1 (pA k1 pT)) (by kernel_rfl)
 ·refine adv (ok X) 12 [.b false] (pA k1 pT) (by kernel_rfl) ?_
  rcases iteE h with ⟨k2, h⟩ | ⟨k2, h⟩
  ·obtain rfl := retE h
   exact fin (ok X) 6 [.b true, .b true] (pA k2 (pA k2 pT)) (by kernel_rfl)
  ·refine adv (ok X) 3 [.b false] (pA k2 pT) (by kernel_rfl) ?_
   rcases iteE h with ⟨k3, h⟩ | ⟨k3, h⟩
   ·obtain rfl := retE h
    exact fin (ok X) 6 [.b true, .b true] (pA k3 (pA k3 pT)) (by kernel_rfl)
   ·refine adv (ok X) 3 [.b false] (pA k3 pT) (by kernel_rfl) ?_
    rcases iteE h with ⟨k4, h⟩ | ⟨k4, h⟩
    ·obtain rfl := retE h
     exact fin (ok X) 6 [.b true, .b true] (pA k4 (pA k4 pT)) (by kernel_rfl)
    ·refine adv (ok X) 3 [.b false] (pA k4 pT) (by kernel_rfl) ?_
     rcases iteE h with ⟨k5, h⟩ | ⟨k5, h⟩
     ·obtain rfl := retE h
      exact fin (ok X) 6 [.b true, .b true] (pA k5 (pA k5 pT)) (by kernel_rfl)
     ·refine adv (ok X) 3 [.b false] (pA k5 pT) (by kernel_rfl) ?_
      rcases iteE h with ⟨k6, h⟩ | ⟨k6, h⟩
      ·obtain rfl := retE h
       exact fin (ok X) 6 [.b true, .b true] (pA k6 (pA k6 pT)) (by kernel_rfl)
      ·refine adv (ok X) 3 [.b false] (pA k6 pT) (by kernel_rfl) ?_
       rcases iteE h with ⟨k7, h⟩ | ⟨k7, h⟩
       ·obtain rfl := retE h
        exact fin (ok X) 6 [.b true, .b true] (pA k7 (pA k7 pT)) (by kernel_rfl)
       ·refine adv (ok X) 2 [.b false] (pA k7 pT) (by kernel_rfl) ?_
        rcases iteE h with ⟨k8, h⟩ | ⟨k8, h⟩
        ·obtain rfl := retE h
         exact fin (ok X) 4 [.b true] (pA k8 pT) (by kernel_rfl)
        ·refine adv (ok X) 4 [.b false] (pA k8 pT) (by kernel_rfl) ?_
         rcases iteE h with ⟨k9, h⟩ | ⟨k9, h⟩
         ·obtain rfl := retE h
          exact fin (ok X) 6 [.b true, .b true] (pA k9 (pA k9 pT)) (by kernel_rfl)
         ·refine adv (ok X) 3 [.b false] (pA k9 pT) (by kernel_rfl) ?_
          rcases iteE h with ⟨k10, h⟩ | ⟨k10, h⟩
          ·obtain rfl := retE h
           exact fin (ok X) 6 [.b true, .b true] (pA k10 (pA k10 pT)) (by kernel_rfl)
          ·refine adv (ok X) 3 [.b false] (pA k10 pT) (by kernel_rfl) ?_
           rcases iteE h with ⟨k11, h⟩ | ⟨k11, h⟩
           ·obtain rfl := retE h
            exact fin (ok X) 6 [.b true, .b true] (pA k11 (pA k11 pT)) (by kernel_rfl)
           ·refine adv (ok X) 3 [.b false] (pA k11 pT) (by kernel_rfl) ?_
            rcases iteE h with ⟨k12, h⟩ | ⟨k12, h⟩
            ·obtain rfl := retE h
             exact fin (ok X) 6 [.b true, .b true] (pA k12 (pA k12 pT)) (by kernel_rfl)
            ·refine adv (ok X) 3 [.b false] (pA k12 pT) (by kernel_rfl) ?_
             rcases iteE h with ⟨k13, h⟩ | ⟨k13, h⟩
             ·obtain rfl := retE h
              exact fin (ok X) 6 [.b true, .b true] (pA k13 (pA k13 pT)) (by kernel_rfl)
             ·refine adv (ok X) 3 [.b false] (pA k13 pT) (by kernel_rfl) ?_
              rcases iteE h with ⟨k14, h⟩ | ⟨k14, h⟩
              ·obtain rfl := retE h
               exact fin (ok X) 6 [.b true, .b true] (pA k14 (pA k14 pT)) (by kernel_rfl)
              ·refine adv (ok X) 3 [.b false] (pA k14 pT) (by kernel_rfl) ?_
               rcases iteE h with ⟨k15, h⟩ | ⟨k15, h⟩
               ·obtain rfl := retE h
                exact fin (ok X) 6 [.b true, .b true] (pA k15 (pA k15 pT)) (by kernel_rfl)
               ·refine adv (ok X) 2 [.b false] (pA k15 pT) (by kernel_rfl) ?_
                rcases iteE h with ⟨k16, h⟩ | ⟨k16, h⟩
                ·obtain rfl := retE h
                 exact fin (ok X) 4 [.b true] (pA k16 pT) (by kernel_rfl)
                ·obtain rfl := retE h
                 exact fin (ok X) 6 [.b false] (pA k16 pT) (by kernel_rfl)

theorem zj3 {a0 : ByteArray} {r : (z08 × Int)} (h : z9f a0 = some r) : Cv Tryz.prog (GX X) 91 [xS a0] (zc2 r) := by
 refine Cs.toV (?_ : Cs Tryz.prog (GX X) 91 [xS a0] [] (zc2 r) (ziy r)) (by kernel_rfl)
 refine fnT (cx := cx X) Tryz.f91 Tryz.call91 Tryz.func91 (by kernel_rfl) ?_
 unfold z9f at h
 rcases iteE h with ⟨k1, h⟩ | ⟨k1, h⟩
 ·obtain rfl := retE h
  exact fin (ok X) 10 [.b true] (pA k1 pT) (by kernel_rfl)
 ·obtain ⟨v1, k2, h⟩ := z0b h
  refine adv (ok X) 9 [.b false, .c (z98 v1)] (pA k1 (pA (zf9 (X := X) k2) pT)) (by kernel_rfl) ?_
  rcases iteE h with ⟨k3, h⟩ | ⟨k3, h⟩
  ·obtain rfl := retE h
   exact fin (ok X) 4 [.b true] (pA k3 pT) (by kernel_rfl)
  ·obtain rfl := retE h
   exact fin (ok X) 6 [.b false] (pA k3 pT) (by kernel_rfl)

theorem zmd {a0 : ByteArray} {r : Int} (h : zcp a0 = some r) : Cv Tryz.prog (GX X) 95 [xS a0] (zde r) := by
 refine Cs.toV (?_ : Cs Tryz.prog (GX X) 95 [xS a0] [] (zde r) (zm7 r)) (by kernel_rfl)
 refine fnT (cx := cx X) Tryz.f95 Tryz.call95 Tryz.func95 (by kernel_rfl) ?_
 unfold zcp at h
 refine adv (ok X) 4 [] pT (by kernel_rfl) ?_
 refine jn (ok X) 1 (fun (j1 : Bool) => ⟨21, 0, [(0, [xS a0]), (16, [xB j1])], []⟩) h (fun j1 h => ?_) (fun j1 h => ?_)
 ·rcases iteE h with ⟨k1, h⟩ | ⟨k1, h⟩
  ·obtain ⟨v1, k2, h⟩ := z0b h
   rcases iteE h with ⟨k3, h⟩ | ⟨k3, h⟩
   ·obtain ⟨v2, k4, h⟩ := z0b h
    obtain ⟨v3, k5, h⟩ := z0b h
    obtain rfl := retE h
    exact fin (ok X) 1 (.b true :: .b true :: .i v1 :: bT 4 [.i v2, .b true, .c (ziz v3), .b true, .b true]) (pA k1 (pA k1 (pA k2 (pA k1 (pA k1 (pA k3 (pA k3 (pA k4 (pA k3 (pA (zob (X := X) k5) (pA k3 (pA k3 pT)))))))))))) (by kernel_rfl)
   ·obtain rfl := retE h
    exact fin (ok X) 1 (.b true :: .b true :: .i v1 :: .b true :: .b true :: bF 5 []) (pA k1 (pA k1 (pA k2 (pA k1 (pA k1 (pR 5 k3 pT)))))) (by kernel_rfl)
  ·obtain rfl := retE h
   exact fin (ok X) 1 (bF 9 []) (pR 4 k1 (pR 5 ff pT)) (by kernel_rfl)
 ·rcases iteE h with ⟨k6, h⟩ | ⟨k6, h⟩
  ·obtain rfl := retE h
   exact fin (ok X) 4 [.b true] (pA k6 pT) (by kernel_rfl)
  ·obtain ⟨v4, k7, h⟩ := z0b h
   obtain ⟨v5, k8, h⟩ := z0b h
   refine adv (ok X) 5 [.b false, .i v4, .c (ziz v5)] (pA k6 (pA k7 (pA (zob (X := X) k8) pT))) (by kernel_rfl) ?_
   rcases iteE h with ⟨k9, h⟩ | ⟨k9, h⟩
   ·obtain rfl := retE h
    exact fin (ok X) 4 [.b true] (pA k9 pT) (by kernel_rfl)
   ·obtain rfl := retE h
    exact fin (ok X) 5 [.b false] (pA k9 pT) (by kernel_rfl)

theorem zme {a0 : ByteArray} {r : (z08 × Int)} (h : za0 a0 = some r) : Cv Tryz.prog (GX X) 55 [xS a0] (zdf r) := by
 refine Cs.toV (?_ : Cs Tryz.prog (GX X) 55 [xS a0] [] (zdf r) (zm8 r)) (by kernel_rfl)
 refine fnT (cx := cx X) Tryz.f55 Tryz.call55 Tryz.func55 (by kernel_rfl) ?_
 unfold za0 at h
 obtain ⟨v1, k1, h⟩ := z0b h
 obtain ⟨v2, k2, h⟩ := z0b h
 refine adv (ok X) 6 [.i v1, .c (z7u v2)] (pA k1 (pA (zax (X := X) k2) pT)) (by kernel_rfl) ?_
 rcases iteE h with ⟨k3, h⟩ | ⟨k3, h⟩
 ·obtain ⟨v3, k4, h⟩ := z0b h
  obtain ⟨v4, k5, h⟩ := z0b h
  obtain ⟨v5, k6, h⟩ := z0b h
  obtain rfl := retE h
  exact fin (ok X) 4 [.b true, .c (zas v3), .x [xS v4], .c (zc2 v5)] (pA k3 (pA (zhs (X := X) k4) (pA k5 (pA (zj3 (X := X) k6) pT)))) (by kernel_rfl)
 ·obtain ⟨v6, k7, h⟩ := z0b h
  obtain ⟨v7, k8, h⟩ := z0b h
  refine adv (ok X) 3 [.b false, .i v6, .c (z9z v7)] (pA k3 (pA k7 (pA (zeu (X := X) k8) pT))) (by kernel_rfl) ?_
  rcases iteE h with ⟨k9, h⟩ | ⟨k9, h⟩
  ·obtain ⟨v8, k10, h⟩ := z0b h
   obtain ⟨v9, k11, h⟩ := z0b h
   obtain ⟨v10, k12, h⟩ := z0b h
   obtain rfl := retE h
   exact fin (ok X) 8 [.b true, .c (zas v8), .x [xS v9], .c (zkq v10)] (pA k9 (pA (zhs (X := X) k10) (pA k11 (pA (zqh (X := X) k12) pT)))) (by kernel_rfl)
  ·obtain ⟨v11, k13, h⟩ := z0b h
   refine adv (ok X) 8 [.b false, .c (zde v11)] (pA k9 (pA (zmd (X := X) k13) pT)) (by kernel_rfl) ?_
   rcases iteE h with ⟨k14, h⟩ | ⟨k14, h⟩
   ·obtain rfl := retE h
    exact fin (ok X) 4 [.b true] (pA k14 pT) (by kernel_rfl)
   ·obtain ⟨v12, k15, h⟩ := z0b h
    obtain rfl := retE h
    exact fin (ok X) 5 [.b false, .x [xS v12]] (pA k14 (pA k15 pT)) (by kernel_rfl)

theorem zoc {a0 : ByteArray} {r : ((List z08) × Int × Int)} (h : zc3 a0 = some r) : Cv Tryz.prog (GX X) 19 [xS a0] (zcq r) := by
 refine Cs.toV (?_ : Cs Tryz.prog (GX X) 19 [xS a0] [] (zcq r) (zho r)) (by kernel_rfl)
 refine fnT (cx := cx X) Tryz.f19 Tryz.call19 Tryz.func19 (by kernel_rfl) ?_
 unfold zc3 at h
 refine adv (ok X) 7 [] pT (by kernel_rfl) ?_
 refine lp (ok X) (z7p a0) (fun (x1 : (Int × (List z08))) => ⟨53, 0, [(0, [xS a0]), (5, [xR 0]), (6, [xI x1.1])], [oR true 140 4 (List.map z1c x1.2)]⟩) (fun (j1 : (List z08)) => ⟨53, 0, [(0, [xS a0]), (5, [xR 0])], [oR true 140 4 (List.map z1c j1)]⟩) zoa (0, []) (fun _ => ⟨_, _, _, _, rfl⟩) h (by kernel_rfl) (fun x1 o h => ?_) (fun r' h => ?_) (fun j1 h => ?_)
 ·unfold z7p at h
  rcases iteE h with ⟨k1, h⟩ | ⟨k1, h⟩
  ·refine adv (ok X) 8 [.b true] (pA k1 pT) (by kernel_rfl) ?_
   refine jn (ok X) 1 (fun (j2 : Bool) => ⟨53, 0, [(0, [xS a0]), (5, [xR 0]), (6, [xI x1.1]), (22, [xB j2])], [oR true 140 4 (List.map z1c x1.2)]⟩) h (fun j2 h => ?_) (fun j2 h => ?_)
   ·obtain ⟨v1, k2, h⟩ := z0b h
    rcases iteE h with ⟨k3, h⟩ | ⟨k3, h⟩
    ·obtain rfl := retE h
     exact fin (ok X) 1 (.i v1 :: bT 5 []) (pA k2 (pR 5 k3 pT)) (by kernel_rfl)
    ·obtain ⟨v2, k4, h⟩ := z0b h
     obtain rfl := retE h
     exact fin (ok X) 1 (.i v1 :: bF 3 [.i v2, .b false, .b false]) (pA k2 (pR 3 k3 (pA k4 (pA k3 (pA k3 pT))))) (by kernel_rfl)
   ·rcases iteE h with ⟨k5, h⟩ | ⟨k5, h⟩
    ·obtain rfl := retE h
     exact fin (ok X) 4 [.b true] (pA k5 pT) (by kernel_rfl)
    ·obtain ⟨v3, k6, h⟩ := z0b h
     obtain ⟨v4, k7, h⟩ := z0b h
     refine adv (ok X) 7 [.b false, .x [xS v3], .c (zdf v4)] (pA k5 (pA k6 (pA (zme (X := X) k7) pT))) (by kernel_rfl) ?_
     rcases iteE h with ⟨k8, h⟩ | ⟨k8, h⟩
     ·obtain rfl := retE h
      exact fin (ok X) 4 [.b true] (pA k8 pT) (by kernel_rfl)
     ·obtain ⟨v5, k9, h⟩ := z0b h
      obtain rfl := retE h
      exact fin (ok X) 8 [.b false, .l (List.map z1c v5)] (pA k8 (pA (apm (L := x1.2) (M := [(z08.mk v4.1.Kind v4.1.Text v4.1.Num x1.1)]) z8u k9) pT)) (by kernel_rfl)
  ·obtain rfl := retE h
   exact fin (ok X) 5 [.b false] (pA k1 pT) (by kernel_rfl)
 ·obtain rfl := retE h
  kernel_rfl
 ·refine adv (ok X) 3 [.i (j1.length : Int)] (pA (lm z1c j1) pT) (by kernel_rfl) ?_
  rcases iteE h with ⟨k10, h⟩ | ⟨k10, h⟩
  ·obtain rfl := retE h
   exact fin (ok X) 4 [.b true] (pA k10 pT) (by kernel_rfl)
  ·obtain rfl := retE h
   exact fin (ok X) 5 [.b false] (pA k10 pT) (by kernel_rfl)

theorem z3t {a0 : z00} {a1 : ByteArray} {r : Bool} (h : z26 a0 a1 = some r) : Cs Tryz.prog (GX X) 56 [xP 0 0, xS a1] [oB 71 (bs (z01 a0))] (z3e r) (z3f a0 r) := by
 refine fnT (cx := cx X) Tryz.f56 Tryz.call56 Tryz.func56 (by kernel_rfl) ?_
 unfold z26 at h
 rcases iteE h with ⟨k1, h⟩ | ⟨k1, h⟩
 ·rcases iteE h with ⟨k2, h⟩ | ⟨k2, h⟩
  ·obtain ⟨v1, k3, h⟩ := z0b h
   rcases iteE h with ⟨k4, h⟩ | ⟨k4, h⟩
   ·obtain ⟨v2, k5, h⟩ := z0b h
    obtain rfl := retE h
    exact fin (ok X) 5 (bT 5 (.i (a0.f_l.length : Int) :: bT 7 (.e (z1c v1) :: bT 9 (.e (z1c v2) :: bT 5 [])))) (pR 5 k1 (pA (lm z1c a0.f_l) (pA k1 (pA k1 (pR 5 k2 (pA (ixm z1c k3) (pR 4 k2 (pR 5 k4 (pA (ixm z1c k5) (pR 5 k4 pT)))))))))) (by kernel_rfl)
   ·obtain rfl := retE h
    exact fin (ok X) 5 (bT 5 (.i (a0.f_l.length : Int) :: bT 7 (.e (z1c v1) :: bT 4 (bF 10 [])))) (pR 5 k1 (pA (lm z1c a0.f_l) (pA k1 (pA k1 (pR 5 k2 (pA (ixm z1c k3) (pR 4 k2 (pR 10 k4 pT)))))))) (by kernel_rfl)
  ·obtain rfl := retE h
   exact fin (ok X) 5 (bT 5 (.i (a0.f_l.length : Int) :: .b true :: .b true :: bF 19 [])) (pR 5 k1 (pA (lm z1c a0.f_l) (pA k1 (pA k1 (pR 9 k2 (pR 10 ff pT)))))) (by kernel_rfl)
 ·obtain rfl := retE h
  exact fin (ok X) 5 (bF 26 []) (pR 7 k1 (pR 19 ff pT)) (by kernel_rfl)

theorem z1v {a0 : z00} {a1 : ByteArray} {r : (z00 × Bool)} (h : z0a a0 a1 = some r) : Cs Tryz.prog (GX X) 20 [xP 0 0, xS a1] [oB 71 (bs (z01 a0))] (z1n r) (z1o r) := by
 refine fnT (cx := cx X) Tryz.f20 Tryz.call20 Tryz.func20 (by kernel_rfl) ?_
 unfold z0a at h
 obtain ⟨v1, k1, h⟩ := z0b h
 refine adv (ok X) 5 [.s (z3e v1) (z3f a0 v1)] (pA (z3t (X := X) k1) pT) (by kernel_rfl) ?_
 rcases iteE h with ⟨k2, h⟩ | ⟨k2, h⟩
 ·obtain rfl := retE h
  exact fin (ok X) 4 [.b true] (pA k2 pT) (by kernel_rfl)
 ·obtain ⟨v2, k3, h⟩ := z0b h
  obtain rfl := retE h
  exact fin (ok X) 7 [.b false, .l (List.map z1c v2)] (pA k2 (pA (lsm0 z1c k3) (pA (lnm z8u a0.f_l) pT))) (by kernel_rfl)

theorem z7r {a0 : z00} {a1 : Int} {r : Bool} (h : z41 a0 a1 = some r) : Cs Tryz.prog (GX X) 115 [xP 0 0, xI a1] [oB 71 (bs (z01 a0))] (z67 r) (z68 a0 r) := by
 refine fnT (cx := cx X) Tryz.f115 Tryz.call115 Tryz.func115 (by kernel_rfl) ?_
 unfold z41 at h
 rcases iteE h with ⟨k1, h⟩ | ⟨k1, h⟩
 ·rcases iteE h with ⟨k2, h⟩ | ⟨k2, h⟩
  ·obtain ⟨v1, k3, h⟩ := z0b h
   obtain rfl := retE h
   exact fin (ok X) 5 (bT 5 (.i (a0.f_l.length : Int) :: bT 7 (.e (z1c v1) :: bT 5 []))) (pR 5 k1 (pA (lm z1c a0.f_l) (pA k1 (pA k1 (pR 5 k2 (pA (ixm z1c k3) (pR 5 k2 pT))))))) (by kernel_rfl)
  ·obtain rfl := retE h
   exact fin (ok X) 5 (bT 5 (.i (a0.f_l.length : Int) :: .b true :: .b true :: bF 10 [])) (pR 5 k1 (pA (lm z1c a0.f_l) (pA k1 (pA k1 (pR 10 k2 pT))))) (by kernel_rfl)
 ·obtain rfl := retE h
  exact fin (ok X) 5 (bF 17 []) (pR 7 k1 (pR 10 ff pT)) (by kernel_rfl)

theorem z3u {a0 : z00} {a1 : Int} {r : z00} (h : z1h a0 a1 = some r) : Cs Tryz.prog (GX X) 24 [xP 0 0, xI a1] [oB 71 (bs (z01 a0))] (z3g r) (z3h r) := by
 refine fnT (cx := cx X) Tryz.f24 Tryz.call24 Tryz.func24 (by kernel_rfl) ?_
 unfold z1h at h
 rcases iteE h with ⟨k1, h⟩ | ⟨k1, h⟩
 ·obtain rfl := retE h
  exact fin (ok X) 5 [.b true] (pA k1 pT) (by kernel_rfl)
 ·refine adv (ok X) 9 [.b false, .i (a0.f_l.length : Int)] (pA k1 (pA (lm z1c a0.f_l) pT)) (by kernel_rfl) ?_
  rcases iteE h with ⟨k2, h⟩ | ⟨k2, h⟩
  ·obtain ⟨v1, k3, h⟩ := z0b h
   obtain rfl := retE h
   exact fin (ok X) 2 [.b true, .e (z1c v1)] (pA k2 (pA (ixm z1c k3) pT)) (by kernel_rfl)
  ·obtain rfl := retE h
   exact fin (ok X) 2 [.b false] (pA k2 pT) (by kernel_rfl)

theorem z8v {a0 : z00} {a1 : Int} {r : (z00 × z08)} (h : z3v a0 a1 = some r) : Cs Tryz.prog (GX X) 96 [xP 0 0, xI a1] [oB 71 (bs (z01 a0))] (z6s r) (z6t r) := by
 refine fnT (cx := cx X) Tryz.f96 Tryz.call96 Tryz.func96 (by kernel_rfl) ?_
 unfold z3v at h
 obtain ⟨v1, k1, h⟩ := z0b h
 refine adv (ok X) 5 [.s (z67 v1) (z68 a0 v1)] (pA (z7r (X := X) k1) pT) (by kernel_rfl) ?_
 rcases iteE h with ⟨k2, h⟩ | ⟨k2, h⟩
 ·obtain ⟨v2, k3, h⟩ := z0b h
  obtain rfl := retE h
  exact fin (ok X) 6 [.b true, .s (z3g v2) (z3h v2)] (pA k2 (pA (z3u (X := X) k3) pT)) (by kernel_rfl)
 ·obtain ⟨v3, k4, h⟩ := z0b h
  obtain ⟨v4, k5, h⟩ := z0b h
  obtain rfl := retE h
  exact fin (ok X) 9 [.b false, .e (z1c v3), .l (List.map z1c v4)] (pA k2 (pA (ixm z1c k4) (pA (lsm0 z1c k5) (pA (lnm z8u a0.f_l) pT)))) (by kernel_rfl)

theorem z1b {a0 : z00} {r : (z00 × ByteArray)} (h : z09 a0 = some r) : Cs Tryz.prog (GX X) 57 [xP 0 0] [oB 71 (bs (z01 a0))] (z17 r) (z18 r) := by
 refine fnT (cx := cx X) Tryz.f57 Tryz.call57 Tryz.func57 (by kernel_rfl) ?_
 unfold z09 at h
 obtain ⟨v1, k1, h⟩ := z0b h
 obtain rfl := retE h
 exact fin (ok X) 5 [.s (z6s v1) (z6t v1)] (pA (z8v (X := X) k1) pT) (by kernel_rfl)

theorem z4x {a0 : (List ByteArray)} {a1010 : z00} {r : (z00 × Int)} (h : z1e a0 a1010 = some r) : Cs Tryz.prog (GX X) 97 [xL (List.map z4e a0), .fn (.func 20) [.box 0 0] []] [oB 71 (bs (z01 a1010))] (z2g r) (z2h r) := by
 refine fnT (cx := cx X) Tryz.f97 Tryz.call97 Tryz.func97 (by kernel_rfl) ?_
 unfold z1e at h
 refine adv (ok X) 5 [.i (a0.length : Int)] (pA (lm z4e a0) pT) (by kernel_rfl) ?_
 refine lp (ok X) (z0e a0) (fun (x1 : (Int × (List z08) × Int × Int × Int × Int × Int)) => ⟨19, 1, [(0, [xL (List.map z4e a0)]), (1, [.fn (.func 20) [.box 0 0] []]), (7, [xI (a0.length : Int)]), (8, [xI x1.1])], [oB 71 (bs (z01 (z00.mk x1.2.1 x1.2.2.1 x1.2.2.2.1 x1.2.2.2.2.1 x1.2.2.2.2.2.1 x1.2.2.2.2.2.2)))]⟩) (fun (j1 : ((List z08) × Int × Int × Int × Int × Int)) => ⟨19, 1, [], [oB 71 (bs (z01 (z00.mk j1.1 j1.2.1 j1.2.2.1 j1.2.2.2.1 j1.2.2.2.2.1 j1.2.2.2.2.2)))]⟩) z4w (0, a1010.f_l, a1010.f_end, a1010.f_e, a1010.f_at, a1010.f_deep, a1010.f_in) (fun _ => ⟨_, _, _, _, rfl⟩) h (by kernel_rfl) (fun x1 o h => ?_) (fun r' h => ?_) (fun j1 h => ?_)
 ·unfold z0e at h
  rcases iteE h with ⟨k1, h⟩ | ⟨k1, h⟩
  ·obtain ⟨v1, k2, h⟩ := z0b h
   obtain ⟨v2, k3, h⟩ := z0b h
   refine adv (ok X) 11 [.b true, .e [.str v1], .s (z1n v2) (z1o v2)] (pA k1 (pA (ixm z4e k2) (pA (z1v (X := X) k3) pT))) (by kernel_rfl) ?_
   rcases iteE h with ⟨k4, h⟩ | ⟨k4, h⟩
   ·obtain rfl := retE h
    exact fin (ok X) 4 [.b true] (pA k4 pT) (by kernel_rfl)
   ·obtain rfl := retE h
    exact fin (ok X) 4 [.b false] (pA k4 pT) (by kernel_rfl)
  ·obtain rfl := retE h
   exact fin (ok X) 5 [.b false] (pA k1 pT) (by kernel_rfl)
 ·obtain rfl := retE h
  kernel_rfl
 ·obtain rfl := retE h
  exact fin (ok X) 3 [] pT (by kernel_rfl)

theorem z5g {a0 : z00} {a1 : (List ByteArray)} {r : (z00 × Int)} (h : z15 a0 a1 = some r) : Cs Tryz.prog (GX X) 58 [xP 0 0, xL (List.map z4e a1)] [oB 71 (bs (z01 a0))] (z4m r) (z4n r) := by
 refine fnT (cx := cx X) Tryz.f58 Tryz.call58 Tryz.func58 (by kernel_rfl) ?_
 unfold z15 at h
 obtain ⟨v1, k1, h⟩ := z0b h
 obtain rfl := retE h
 exact fin (ok X) 5 [.s (z2g v1) (z2h v1)] (pA (z4x (X := X) k1) pT) (by kernel_rfl)

theorem z59 {a0 : z00} {r : (z00 × Int)} (h : z1a a0 = some r) : Cs Tryz.prog (GX X) 59 [xP 0 0] [oB 71 (bs (z01 a0))] (z4c r) (z4d r) := by
 refine fnT (cx := cx X) Tryz.f59 Tryz.call59 Tryz.func59 (by kernel_rfl) ?_
 unfold z1a at h
 obtain ⟨v1, k1, h⟩ := z0b h
 obtain rfl := retE h
 exact fin (ok X) 5 [.s (z6s v1) (z6t v1)] (pA (z8v (X := X) k1) pT) (by kernel_rfl)

theorem z0i {a0 : z00} {a1 : ByteArray} {r : z00} (h : z04 a0 a1 = some r) : Cs Tryz.prog (GX X) 60 [xP 0 0, xS a1] [oB 71 (bs (z01 a0))] (z0f r) (z0g r) := by
 refine fnT (cx := cx X) Tryz.f60 Tryz.call60 Tryz.func60 (by kernel_rfl) ?_
 unfold z04 at h
 obtain ⟨v1, k1, h⟩ := z0b h
 refine adv (ok X) 2 [.s (z1n v1) (z1o v1)] (pA (z1v (X := X) k1) pT) (by kernel_rfl) ?_
 rcases iteE h with ⟨k2, h⟩ | ⟨k2, h⟩
 ·obtain ⟨v2, k3, h⟩ := z0b h
  obtain rfl := retE h
  exact fin (ok X) 2 [.b true, .s (z3g v2) (z3h v2)] (pA k2 (pA (z3u (X := X) k3) pT)) (by kernel_rfl)
 ·obtain rfl := retE h
  exact fin (ok X) 2 [.b false] (pA k2 pT) (by kernel_rfl)

theorem zae {a0 : z00} {r : (z00 × z27)} (h : z42 a0 = some r) : Cs Tryz.prog (GX X) 21 [xP 0 0] [oB 71 (bs (z01 a0))] (z5r r) (z5s r) := by
 refine fnT (cx := cx X) Tryz.f21 Tryz.call21 Tryz.func21 (by kernel_rfl) ?_
 unfold z42 at h
 obtain ⟨v1, k1, h⟩ := z0b h
 obtain ⟨v2, k2, h⟩ := z0b h
 refine adv (ok X) 9 [.s (z17 v1) (z18 v1), .s (z4m v2) (z4n v2)] (pA (z1b (X := X) k1) (pA (z5g (X := X) k2) pT)) (by kernel_rfl) ?_
 rcases iteE h with ⟨k3, h⟩ | ⟨k3, h⟩
 ·obtain ⟨v3, k4, h⟩ := z0b h
  obtain rfl := retE h
  exact fin (ok X) 6 [.b true, .s (z3g v3) (z3h v3)] (pA k3 (pA (z3u (X := X) k4) pT)) (by kernel_rfl)
 ·obtain ⟨v4, k5, h⟩ := z0b h
  obtain ⟨v5, k6, h⟩ := z0b h
  obtain ⟨v6, k7, h⟩ := z0b h
  obtain ⟨v7, k8, h⟩ := z0b h
  obtain ⟨v8, k9, h⟩ := z0b h
  obtain ⟨v9, k10, h⟩ := z0b h
  obtain ⟨v10, k11, h⟩ := z0b h
  obtain ⟨v11, k12, h⟩ := z0b h
  refine adv (ok X) 17 [.b false, .s (z4c v4) (z4d v4), .s (z0f v5) (z0g v5), .s (z17 v6) (z18 v6), .s (z0f v7) (z0g v7), .s (z17 v8) (z18 v8), .s (z0f v9) (z0g v9), .o [0, 1, 2, 3, 4, 5, 6, 7], .s (z17 v10) (z18 v10), .l (List.map z4e v11)] (pA k3 (pA (z59 (X := X) k5) (pA (z0i (X := X) k6) (pA (z1b (X := X) k7) (pA (z0i (X := X) k8) (pA (z1b (X := X) k9) (pA (z0i (X := X) k10) (pA (z1b (X := X) k11) (pA (apm (L := []) (M := [v10.2]) zaw k12) pT))))))))) (by kernel_rfl) ?_
  refine lp (ok X) (z1d) (fun (x1 : ((List z08) × Int × Int × Int × Int × Int × (List ByteArray))) => ⟨53, 1, [(0, [xP 0 0]), (2, [xP 1 0]), (3, [xP 2 0])], [oB 71 (bs (z01 (z00.mk x1.1 x1.2.1 x1.2.2.1 x1.2.2.2.1 x1.2.2.2.2.1 x1.2.2.2.2.2.1))), oB 73 [.pv (.str (ByteArray.mk #[])), .pv (.int .i64 0), .pv (.int .i64 0), .pv (.str (ByteArray.mk #[])), .pv (.str (ByteArray.mk #[])), .emp], oB 73 [.pv (.str v1.2), .pv (.int .i64 v2.2), .pv (.int .i64 v4.2), .pv (.str v6.2), .pv (.str v8.2), .row 3], oR true 9 1 (List.map z4e x1.2.2.2.2.2.2)]⟩) (fun (j1 : ((List z08) × Int × Int × Int × Int × Int × (List ByteArray))) => ⟨53, 1, [(0, [xP 0 0]), (2, [xP 1 0]), (3, [xP 2 0])], [oB 71 (bs (z01 (z00.mk j1.1 j1.2.1 j1.2.2.1 j1.2.2.2.1 j1.2.2.2.2.1 j1.2.2.2.2.2.1))), oB 73 [.pv (.str (ByteArray.mk #[])), .pv (.int .i64 0), .pv (.int .i64 0), .pv (.str (ByteArray.mk #[])), .pv (.str (ByteArray.mk #[])), .emp], oB 73 [.pv (.str v1.2), .pv (.int .i64 v2.2), .pv (.int .i64 v4.2), .pv (.str v6.2), .pv (.str v8.2), .row 3], oR true 9 1 (List.map z4e j1.2.2.2.2.2.2)]⟩) zaa (v10.1.f_l, v10.1.f_end, v10.1.f_e, v10.1.f_at, v10.1.f_deep, v10.1.f_in, v11) (fun _ => ⟨_, _, _, _, rfl⟩) h (by kernel_rfl) (fun x1 o h => ?_) (fun r' h => ?_) (fun j1 h => ?_)
  ·unfold z1d at h
   obtain ⟨v12, k13, h⟩ := z0b h
   refine adv (ok X) 3 [.s (z1n v12) (z1o v12)] (pA (z1v (X := X) k13) pT) (by kernel_rfl) ?_
   rcases iteE h with ⟨k14, h⟩ | ⟨k14, h⟩
   ·obtain ⟨v13, k15, h⟩ := z0b h
    obtain ⟨v14, k16, h⟩ := z0b h
    obtain rfl := retE h
    exact fin (ok X) 5 [.b true, .o [0, 1, 2, 3, 4, 5, 6, 7], .s (z17 v13) (z18 v13), .l (List.map z4e v14)] (pA k14 (pA (z1b (X := X) k15) (pA (apm (L := x1.2.2.2.2.2.2) (M := [v13.2]) zaw k16) pT))) (by kernel_rfl)
   ·obtain rfl := retE h
    exact fin (ok X) 2 [.b false] (pA k14 pT) (by kernel_rfl)
  ·cases h
  ·obtain ⟨v15, k17, h⟩ := z0b h
   obtain ⟨v16, k18, h⟩ := z0b h
   obtain rfl := retE h
   exact fin (ok X) 7 [.s (z0f v15) (z0g v15), .s (z0f v16) (z0g v16)] (pA (z0i (X := X) k17) (pA (z0i (X := X) k18) pT)) (by kernel_rfl)

theorem zc7 {a0 : z00} {r : (z00 × z2a)} (h : z4t a0 = some r) : Cs Tryz.prog (GX X) 22 [xP 0 0] [oB 71 (bs (z01 a0))] (z6u r) (z6v r) := by
 refine fnT (cx := cx X) Tryz.f22 Tryz.call22 Tryz.func22 (by kernel_rfl) ?_
 unfold z4t at h
 obtain ⟨v1, k1, h⟩ := z0b h
 obtain ⟨v2, k2, h⟩ := z0b h
 refine adv (ok X) 7 [.s (z17 v1) (z18 v1), .s (z0f v2) (z0g v2)] (pA (z1b (X := X) k1) (pA (z0i (X := X) k2) pT)) (by kernel_rfl) ?_
 refine lp (ok X) (z2b) (fun (x1 : ((List z08) × Int × Int × Int × Int × Int × (List z39))) => ⟨38, 1, [(0, [xP 0 0]), (2, [xP 1 0]), (3, [xP 2 0])], [oB 71 (bs (z01 (z00.mk x1.1 x1.2.1 x1.2.2.1 x1.2.2.2.1 x1.2.2.2.2.1 x1.2.2.2.2.2.1))), oB 77 [.pv (.str (ByteArray.mk #[])), .emp], oB 77 [.pv (.str v1.2), .row 3], oR true 111 3 (List.map z36 x1.2.2.2.2.2.2)]⟩) (fun (j1 : ((List z08) × Int × Int × Int × Int × Int × (List z39))) => ⟨38, 1, [(0, [xP 0 0]), (2, [xP 1 0]), (3, [xP 2 0])], [oB 71 (bs (z01 (z00.mk j1.1 j1.2.1 j1.2.2.1 j1.2.2.2.1 j1.2.2.2.2.1 j1.2.2.2.2.2.1))), oB 77 [.pv (.str (ByteArray.mk #[])), .emp], oB 77 [.pv (.str v1.2), .row 3], oR true 111 3 (List.map z36 j1.2.2.2.2.2.2)]⟩) zc4 (v2.f_l, v2.f_end, v2.f_e, v2.f_at, v2.f_deep, v2.f_in, []) (fun _ => ⟨_, _, _, _, rfl⟩) h (by kernel_rfl) (fun x1 o h => ?_) (fun r' h => ?_) (fun j1 h => ?_)
 ·unfold z2b at h
  refine adv (ok X) 2 [] pT (by kernel_rfl) ?_
  refine jn (ok X) 1 (fun (j2 : Bool) => ⟨38, 1, [(0, [xP 0 0]), (2, [xP 1 0]), (3, [xP 2 0]), (19, [xB j2])], [oB 71 (bs (z01 (z00.mk x1.1 x1.2.1 x1.2.2.1 x1.2.2.2.1 x1.2.2.2.2.1 x1.2.2.2.2.2.1))), oB 77 [.pv (.str (ByteArray.mk #[])), .emp], oB 77 [.pv (.str v1.2), .row 3], oR true 111 3 (List.map z36 x1.2.2.2.2.2.2)]⟩) h (fun j2 h => ?_) (fun j2 h => ?_)
  ·rcases iteE h with ⟨k3, h⟩ | ⟨k3, h⟩
   ·obtain ⟨v3, k4, h⟩ := z0b h
    obtain rfl := retE h
    exact fin (ok X) 1 [.b true, .b true, .s (z3e v3) (z3f (z00.mk x1.1 x1.2.1 x1.2.2.1 x1.2.2.2.1 x1.2.2.2.2.1 x1.2.2.2.2.2.1) v3), .b true, .b true] (pA k3 (pA k3 (pA (z3t (X := X) k4) (pA k3 (pA k3 pT))))) (by kernel_rfl)
   ·obtain rfl := retE h
    exact fin (ok X) 1 (bF 4 []) (pR 4 k3 pT) (by kernel_rfl)
  ·rcases iteE h with ⟨k5, h⟩ | ⟨k5, h⟩
   ·obtain ⟨v4, k6, h⟩ := z0b h
    obtain ⟨v5, k7, h⟩ := z0b h
    obtain ⟨v6, k8, h⟩ := z0b h
    obtain ⟨v7, k9, h⟩ := z0b h
    obtain ⟨v8, k10, h⟩ := z0b h
    obtain rfl := retE h
    exact fin (ok X) 9 [.b true, .s (z4c v4) (z4d v4), .s (z17 v5) (z18 v5), .s (z4c v6) (z4d v6), .s (z0f v7) (z0g v7), .l (List.map z36 v8)] (pA k5 (pA (z59 (X := X) k6) (pA (z1b (X := X) k7) (pA (z59 (X := X) k8) (pA (z0i (X := X) k9) (pA (apm (L := x1.2.2.2.2.2.2) (M := [(z39.mk v4.2 v5.2 v6.2)]) zbr k10) pT)))))) (by kernel_rfl)
   ·obtain rfl := retE h
    exact fin (ok X) 2 [.b false] (pA k5 pT) (by kernel_rfl)
 ·cases h
 ·obtain ⟨v9, k11, h⟩ := z0b h
  obtain rfl := retE h
  exact fin (ok X) 5 [.s (z0f v9) (z0g v9)] (pA (z0i (X := X) k11) pT) (by kernel_rfl)

theorem z8c {a0 : z00} {r : (z00 × Bool)} (h : z4h a0 = some r) : Cs Tryz.prog (GX X) 187 [xP 0 0] [oB 71 (bs (z01 a0))] (z6i r) (z6j r) := by
 refine fnT (cx := cx X) Tryz.f187 Tryz.call187 Tryz.func187 (by kernel_rfl) ?_
 unfold z4h at h
 rcases iteE h with ⟨k1, h⟩ | ⟨k1, h⟩
 ·obtain ⟨v1, k2, h⟩ := z0b h
  obtain rfl := retE h
  exact fin (ok X) 11 [.b true, .s (z3g v1) (z3h v1)] (pA k1 (pA (z3u (X := X) k2) pT)) (by kernel_rfl)
 ·obtain rfl := retE h
  exact fin (ok X) 12 [.b false] (pA k1 pT) (by kernel_rfl)

theorem zc8 {n : Nat} (ih_parse_reader_expr : ∀ (a0 : z00) (r : (z00 × z03)), z10 n a0 = some r → Cs Tryz.prog (GX X) 141 [xP 0 0] [oB 71 (bs (z01 a0))] (z1p r) (z1q r)) (ih_parse_reader_chain_parse_reader_term : ∀ (a0 : z00) (a2 : (List ByteArray)) (a3 : Int) (r : (z00 × z03)), z07 n a0 a2 a3 = some r → Cs Tryz.prog (GX X) 160 [xP 0 0, .fn (.func 161) [.box 0 0] [], xL (List.map z4e a2), xI a3] [oB 71 (bs (z01 a0))] (z0t r) (z0u r)) (ih_parse_reader_term : ∀ (a0 : z00) (r : (z00 × z03)), z0x n a0 = some r → Cs Tryz.prog (GX X) 161 [xP 0 0] [oB 71 (bs (z01 a0))] (z2i r) (z2j r)) (ih_parse_reader_chain_parse_reader_factor : ∀ (a0 : z00) (a2 : (List ByteArray)) (a3 : Int) (r : (z00 × z03)), z06 n a0 a2 a3 = some r → Cs Tryz.prog (GX X) 160 [xP 0 0, .fn (.func 174) [.box 0 0] [], xL (List.map z4e a2), xI a3] [oB 71 (bs (z01 a0))] (z0m r) (z0n r)) (ih_parse_reader_factor : ∀ (a0 : z00) (r : (z00 × z03)), z0c n a0 = some r → Cs Tryz.prog (GX X) 174 [xP 0 0] [oB 71 (bs (z01 a0))] (z22 r) (z23 r)) (ih_parse_reader_negated : ∀ (a0 : z00) (r : (z00 × z03)), z0y n a0 = some r → Cs Tryz.prog (GX X) 183 [xP 0 0] [oB 71 (bs (z01 a0))] (z28 r) (z29 r)) (ih_parse_reader_parens : ∀ (a0 : z00) (r : (z00 × z03)), z11 n a0 = some r → Cs Tryz.prog (GX X) 184 [xP 0 0] [oB 71 (bs (z01 a0))] (z2e r) (z2f r)) (a0 : z00) (r : (z00 × z03)) (h : z10 (n + 1) a0 = some r) : Cs Tryz.prog (GX X) 141 [xP 0 0] [oB 71 (bs (z01 a0))] (z1p r) (z1q r) := by
 refine fnT (cx := cx X) Tryz.f141 Tryz.call141 Tryz.func141 (by kernel_rfl) ?_
 rw [z10] at h
 obtain ⟨v1, k1, h⟩ := z0b h
 obtain rfl := retE h
 exact fin (ok X) 5 [.s (z0t v1) (z0u v1)] (pA (ih_parse_reader_chain_parse_reader_term _ _ _ _ k1) pT) (by kernel_rfl)

theorem z6f {n : Nat} (ih_parse_reader_expr : ∀ (a0 : z00) (r : (z00 × z03)), z10 n a0 = some r → Cs Tryz.prog (GX X) 141 [xP 0 0] [oB 71 (bs (z01 a0))] (z1p r) (z1q r)) (ih_parse_reader_chain_parse_reader_term : ∀ (a0 : z00) (a2 : (List ByteArray)) (a3 : Int) (r : (z00 × z03)), z07 n a0 a2 a3 = some r → Cs Tryz.prog (GX X) 160 [xP 0 0, .fn (.func 161) [.box 0 0] [], xL (List.map z4e a2), xI a3] [oB 71 (bs (z01 a0))] (z0t r) (z0u r)) (ih_parse_reader_term : ∀ (a0 : z00) (r : (z00 × z03)), z0x n a0 = some r → Cs Tryz.prog (GX X) 161 [xP 0 0] [oB 71 (bs (z01 a0))] (z2i r) (z2j r)) (ih_parse_reader_chain_parse_reader_factor : ∀ (a0 : z00) (a2 : (List ByteArray)) (a3 : Int) (r : (z00 × z03)), z06 n a0 a2 a3 = some r → Cs Tryz.prog (GX X) 160 [xP 0 0, .fn (.func 174) [.box 0 0] [], xL (List.map z4e a2), xI a3] [oB 71 (bs (z01 a0))] (z0m r) (z0n r)) (ih_parse_reader_factor : ∀ (a0 : z00) (r : (z00 × z03)), z0c n a0 = some r → Cs Tryz.prog (GX X) 174 [xP 0 0] [oB 71 (bs (z01 a0))] (z22 r) (z23 r)) (ih_parse_reader_negated : ∀ (a0 : z00) (r : (z00 × z03)), z0y n a0 = some r → Cs Tryz.prog (GX X) 183 [xP 0 0] [oB 71 (bs (z01 a0))] (z28 r) (z29 r)) (ih_parse_reader_parens : ∀ (a0 : z00) (r : (z00 × z03)), z11 n a0 = some r → Cs Tryz.prog (GX X) 184 [xP 0 0] [oB 71 (bs (z01 a0))] (z2e r) (z2f r)) (a0 : z00) (a2 : (List ByteArray)) (a3 : Int) (r : (z00 × z03)) (h : z07 (n + 1) a0 a2 a3 = some r) : Cs Tryz.prog (GX X) 160 [xP 0 0, .fn (.func 161) [.box 0 0] [], xL (List.map z4e a2), xI a3] [oB 71 (bs (z01 a0))] (z0t r) (z0u r) := by
 refine fnT (cx := cx X) Tryz.f160 Tryz.call160 Tryz.func160 (by kernel_rfl) ?_
 rw [z07] at h
 obtain ⟨v1, k1, h⟩ := z0b h
 refine adv (ok X) 5 [.s (z2i v1) (z2j v1)] (pA (ih_parse_reader_term _ _ k1) pT) (by kernel_rfl) ?_
 refine lp (ok X) (z1u (z10 n) (z07 n) (z0x n) (z06 n) (z0c n) (z0y n) (z11 n) a2 a3) (fun (x1 : ((List z08) × Int × Int × Int × Int × Int × Int × Int × ByteArray × (List z03))) => ⟨32, 1, [(0, [xP 0 0]), (1, [.fn (.func 161) [.box 0 0] []]), (2, [xL (List.map z4e a2)]), (3, [xI a3]), (8, [xP 1 0]), (9, [xP 2 0])], [oB 71 (bs (z01 (z00.mk x1.1 x1.2.1 x1.2.2.1 x1.2.2.2.1 x1.2.2.2.2.1 x1.2.2.2.2.2.1))), oB 103 [.pv (.int .i64 0), .pv (.int .i64 0), .pv (.str (ByteArray.mk #[])), .emp], oB 103 (bs (z25 (z03.mk x1.2.2.2.2.2.2.1 x1.2.2.2.2.2.2.2.1 x1.2.2.2.2.2.2.2.2.1 x1.2.2.2.2.2.2.2.2.2)))]⟩) (fun (j1 : ((List z08) × Int × Int × Int × Int × Int × Int × Int × ByteArray × (List z03))) => ⟨32, 1, [(8, [xP 1 0]), (9, [xP 2 0])], [oB 71 (bs (z01 (z00.mk j1.1 j1.2.1 j1.2.2.1 j1.2.2.2.1 j1.2.2.2.2.1 j1.2.2.2.2.2.1))), oB 103 [.pv (.int .i64 0), .pv (.int .i64 0), .pv (.str (ByteArray.mk #[])), .emp], oB 103 (bs (z25 (z03.mk j1.2.2.2.2.2.2.1 j1.2.2.2.2.2.2.2.1 j1.2.2.2.2.2.2.2.2.1 j1.2.2.2.2.2.2.2.2.2)))]⟩) z69 (v1.1.f_l, v1.1.f_end, v1.1.f_e, v1.1.f_at, v1.1.f_deep, v1.1.f_in, v1.2.Kind, v1.2.Num, v1.2.Name, v1.2.Kids) (fun _ => ⟨_, _, _, _, rfl⟩) h (by kernel_rfl) (fun x1 o h => ?_) (fun r' h => ?_) (fun j1 h => ?_)
 ·unfold z1u at h
  rcases iteE h with ⟨k2, h⟩ | ⟨k2, h⟩
  ·obtain ⟨v2, k3, h⟩ := z0b h
   refine adv (ok X) 11 [.b true, .s (z4m v2) (z4n v2)] (pA k2 (pA (z5g (X := X) k3) pT)) (by kernel_rfl) ?_
   rcases iteE h with ⟨k4, h⟩ | ⟨k4, h⟩
   ·obtain rfl := retE h
    exact fin (ok X) 2 [.b true] (pA k4 pT) (by kernel_rfl)
   ·obtain ⟨v3, k5, h⟩ := z0b h
    obtain rfl := retE h
    exact fin (ok X) 4 [.b false, .o [0, 1, 2, 3, 4, 5, 6, 7, 8], .s (z2i v3) (z2j v3), .bl (List.map z0q [(z03.mk x1.2.2.2.2.2.2.1 x1.2.2.2.2.2.2.2.1 x1.2.2.2.2.2.2.2.2.1 x1.2.2.2.2.2.2.2.2.2), v3.2])] (pA k4 (pA (ih_parse_reader_term _ _ k5) (pA (blc (e := z0q) (x := (z03.mk x1.2.2.2.2.2.2.1 x1.2.2.2.2.2.2.2.1 x1.2.2.2.2.2.2.2.2.1 x1.2.2.2.2.2.2.2.2.2)) (z3r _).symm (blc (e := z0q) (x := v3.2) (z3r _).symm (bl0 z0q))) pT))) (by kernel_rfl)
  ·obtain rfl := retE h
   exact fin (ok X) 5 [.b false] (pA k2 pT) (by kernel_rfl)
 ·cases h
 ·obtain rfl := retE h
  exact fin (ok X) 3 [] pT (by kernel_rfl)

theorem zc9 {n : Nat} (ih_parse_reader_expr : ∀ (a0 : z00) (r : (z00 × z03)), z10 n a0 = some r → Cs Tryz.prog (GX X) 141 [xP 0 0] [oB 71 (bs (z01 a0))] (z1p r) (z1q r)) (ih_parse_reader_chain_parse_reader_term : ∀ (a0 : z00) (a2 : (List ByteArray)) (a3 : Int) (r : (z00 × z03)), z07 n a0 a2 a3 = some r → Cs Tryz.prog (GX X) 160 [xP 0 0, .fn (.func 161) [.box 0 0] [], xL (List.map z4e a2), xI a3] [oB 71 (bs (z01 a0))] (z0t r) (z0u r)) (ih_parse_reader_term : ∀ (a0 : z00) (r : (z00 × z03)), z0x n a0 = some r → Cs Tryz.prog (GX X) 161 [xP 0 0] [oB 71 (bs (z01 a0))] (z2i r) (z2j r)) (ih_parse_reader_chain_parse_reader_factor : ∀ (a0 : z00) (a2 : (List ByteArray)) (a3 : Int) (r : (z00 × z03)), z06 n a0 a2 a3 = some r → Cs Tryz.prog (GX X) 160 [xP 0 0, .fn (.func 174) [.box 0 0] [], xL (List.map z4e a2), xI a3] [oB 71 (bs (z01 a0))] (z0m r) (z0n r)) (ih_parse_reader_factor : ∀ (a0 : z00) (r : (z00 × z03)), z0c n a0 = some r → Cs Tryz.prog (GX X) 174 [xP 0 0] [oB 71 (bs (z01 a0))] (z22 r) (z23 r)) (ih_parse_reader_negated : ∀ (a0 : z00) (r : (z00 × z03)), z0y n a0 = some r → Cs Tryz.prog (GX X) 183 [xP 0 0] [oB 71 (bs (z01 a0))] (z28 r) (z29 r)) (ih_parse_reader_parens : ∀ (a0 : z00) (r : (z00 × z03)), z11 n a0 = some r → Cs Tryz.prog (GX X) 184 [xP 0 0] [oB 71 (bs (z01 a0))] (z2e r) (z2f r)) (a0 : z00) (r : (z00 × z03)) (h : z0x (n + 1) a0 = some r) : Cs Tryz.prog (GX X) 161 [xP 0 0] [oB 71 (bs (z01 a0))] (z2i r) (z2j r) := by
 refine fnT (cx := cx X) Tryz.f161 Tryz.call161 Tryz.func161 (by kernel_rfl) ?_
 rw [z0x] at h
 obtain ⟨v1, k1, h⟩ := z0b h
 obtain rfl := retE h
 exact fin (ok X) 5 [.s (z0m v1) (z0n v1)] (pA (ih_parse_reader_chain_parse_reader_factor _ _ _ _ k1) pT) (by kernel_rfl)

theorem z5x {n : Nat} (ih_parse_reader_expr : ∀ (a0 : z00) (r : (z00 × z03)), z10 n a0 = some r → Cs Tryz.prog (GX X) 141 [xP 0 0] [oB 71 (bs (z01 a0))] (z1p r) (z1q r)) (ih_parse_reader_chain_parse_reader_term : ∀ (a0 : z00) (a2 : (List ByteArray)) (a3 : Int) (r : (z00 × z03)), z07 n a0 a2 a3 = some r → Cs Tryz.prog (GX X) 160 [xP 0 0, .fn (.func 161) [.box 0 0] [], xL (List.map z4e a2), xI a3] [oB 71 (bs (z01 a0))] (z0t r) (z0u r)) (ih_parse_reader_term : ∀ (a0 : z00) (r : (z00 × z03)), z0x n a0 = some r → Cs Tryz.prog (GX X) 161 [xP 0 0] [oB 71 (bs (z01 a0))] (z2i r) (z2j r)) (ih_parse_reader_chain_parse_reader_factor : ∀ (a0 : z00) (a2 : (List ByteArray)) (a3 : Int) (r : (z00 × z03)), z06 n a0 a2 a3 = some r → Cs Tryz.prog (GX X) 160 [xP 0 0, .fn (.func 174) [.box 0 0] [], xL (List.map z4e a2), xI a3] [oB 71 (bs (z01 a0))] (z0m r) (z0n r)) (ih_parse_reader_factor : ∀ (a0 : z00) (r : (z00 × z03)), z0c n a0 = some r → Cs Tryz.prog (GX X) 174 [xP 0 0] [oB 71 (bs (z01 a0))] (z22 r) (z23 r)) (ih_parse_reader_negated : ∀ (a0 : z00) (r : (z00 × z03)), z0y n a0 = some r → Cs Tryz.prog (GX X) 183 [xP 0 0] [oB 71 (bs (z01 a0))] (z28 r) (z29 r)) (ih_parse_reader_parens : ∀ (a0 : z00) (r : (z00 × z03)), z11 n a0 = some r → Cs Tryz.prog (GX X) 184 [xP 0 0] [oB 71 (bs (z01 a0))] (z2e r) (z2f r)) (a0 : z00) (a2 : (List ByteArray)) (a3 : Int) (r : (z00 × z03)) (h : z06 (n + 1) a0 a2 a3 = some r) : Cs Tryz.prog (GX X) 160 [xP 0 0, .fn (.func 174) [.box 0 0] [], xL (List.map z4e a2), xI a3] [oB 71 (bs (z01 a0))] (z0m r) (z0n r) := by
 refine fnT (cx := cx X) Tryz.f160 Tryz.call160 Tryz.func160 (by kernel_rfl) ?_
 rw [z06] at h
 obtain ⟨v1, k1, h⟩ := z0b h
 refine adv (ok X) 5 [.s (z22 v1) (z23 v1)] (pA (ih_parse_reader_factor _ _ k1) pT) (by kernel_rfl) ?_
 refine lp (ok X) (z1i (z10 n) (z07 n) (z0x n) (z06 n) (z0c n) (z0y n) (z11 n) a2 a3) (fun (x1 : ((List z08) × Int × Int × Int × Int × Int × Int × Int × ByteArray × (List z03))) => ⟨32, 1, [(0, [xP 0 0]), (1, [.fn (.func 174) [.box 0 0] []]), (2, [xL (List.map z4e a2)]), (3, [xI a3]), (8, [xP 1 0]), (9, [xP 2 0])], [oB 71 (bs (z01 (z00.mk x1.1 x1.2.1 x1.2.2.1 x1.2.2.2.1 x1.2.2.2.2.1 x1.2.2.2.2.2.1))), oB 103 [.pv (.int .i64 0), .pv (.int .i64 0), .pv (.str (ByteArray.mk #[])), .emp], oB 103 (bs (z25 (z03.mk x1.2.2.2.2.2.2.1 x1.2.2.2.2.2.2.2.1 x1.2.2.2.2.2.2.2.2.1 x1.2.2.2.2.2.2.2.2.2)))]⟩) (fun (j1 : ((List z08) × Int × Int × Int × Int × Int × Int × Int × ByteArray × (List z03))) => ⟨32, 1, [(8, [xP 1 0]), (9, [xP 2 0])], [oB 71 (bs (z01 (z00.mk j1.1 j1.2.1 j1.2.2.1 j1.2.2.2.1 j1.2.2.2.2.1 j1.2.2.2.2.2.1))), oB 103 [.pv (.int .i64 0), .pv (.int .i64 0), .pv (.str (ByteArray.mk #[])), .emp], oB 103 (bs (z25 (z03.mk j1.2.2.2.2.2.2.1 j1.2.2.2.2.2.2.2.1 j1.2.2.2.2.2.2.2.2.1 j1.2.2.2.2.2.2.2.2.2)))]⟩) z5w (v1.1.f_l, v1.1.f_end, v1.1.f_e, v1.1.f_at, v1.1.f_deep, v1.1.f_in, v1.2.Kind, v1.2.Num, v1.2.Name, v1.2.Kids) (fun _ => ⟨_, _, _, _, rfl⟩) h (by kernel_rfl) (fun x1 o h => ?_) (fun r' h => ?_) (fun j1 h => ?_)
 ·unfold z1i at h
  rcases iteE h with ⟨k2, h⟩ | ⟨k2, h⟩
  ·obtain ⟨v2, k3, h⟩ := z0b h
   refine adv (ok X) 11 [.b true, .s (z4m v2) (z4n v2)] (pA k2 (pA (z5g (X := X) k3) pT)) (by kernel_rfl) ?_
   rcases iteE h with ⟨k4, h⟩ | ⟨k4, h⟩
   ·obtain rfl := retE h
    exact fin (ok X) 2 [.b true] (pA k4 pT) (by kernel_rfl)
   ·obtain ⟨v3, k5, h⟩ := z0b h
    obtain rfl := retE h
    exact fin (ok X) 4 [.b false, .o [0, 1, 2, 3, 4, 5, 6, 7, 8], .s (z22 v3) (z23 v3), .bl (List.map z0q [(z03.mk x1.2.2.2.2.2.2.1 x1.2.2.2.2.2.2.2.1 x1.2.2.2.2.2.2.2.2.1 x1.2.2.2.2.2.2.2.2.2), v3.2])] (pA k4 (pA (ih_parse_reader_factor _ _ k5) (pA (blc (e := z0q) (x := (z03.mk x1.2.2.2.2.2.2.1 x1.2.2.2.2.2.2.2.1 x1.2.2.2.2.2.2.2.2.1 x1.2.2.2.2.2.2.2.2.2)) (z3r _).symm (blc (e := z0q) (x := v3.2) (z3r _).symm (bl0 z0q))) pT))) (by kernel_rfl)
  ·obtain rfl := retE h
   exact fin (ok X) 5 [.b false] (pA k2 pT) (by kernel_rfl)
 ·cases h
 ·obtain rfl := retE h
  exact fin (ok X) 3 [] pT (by kernel_rfl)

theorem zay {n : Nat} (ih_parse_reader_expr : ∀ (a0 : z00) (r : (z00 × z03)), z10 n a0 = some r → Cs Tryz.prog (GX X) 141 [xP 0 0] [oB 71 (bs (z01 a0))] (z1p r) (z1q r)) (ih_parse_reader_chain_parse_reader_term : ∀ (a0 : z00) (a2 : (List ByteArray)) (a3 : Int) (r : (z00 × z03)), z07 n a0 a2 a3 = some r → Cs Tryz.prog (GX X) 160 [xP 0 0, .fn (.func 161) [.box 0 0] [], xL (List.map z4e a2), xI a3] [oB 71 (bs (z01 a0))] (z0t r) (z0u r)) (ih_parse_reader_term : ∀ (a0 : z00) (r : (z00 × z03)), z0x n a0 = some r → Cs Tryz.prog (GX X) 161 [xP 0 0] [oB 71 (bs (z01 a0))] (z2i r) (z2j r)) (ih_parse_reader_chain_parse_reader_factor : ∀ (a0 : z00) (a2 : (List ByteArray)) (a3 : Int) (r : (z00 × z03)), z06 n a0 a2 a3 = some r → Cs Tryz.prog (GX X) 160 [xP 0 0, .fn (.func 174) [.box 0 0] [], xL (List.map z4e a2), xI a3] [oB 71 (bs (z01 a0))] (z0m r) (z0n r)) (ih_parse_reader_factor : ∀ (a0 : z00) (r : (z00 × z03)), z0c n a0 = some r → Cs Tryz.prog (GX X) 174 [xP 0 0] [oB 71 (bs (z01 a0))] (z22 r) (z23 r)) (ih_parse_reader_negated : ∀ (a0 : z00) (r : (z00 × z03)), z0y n a0 = some r → Cs Tryz.prog (GX X) 183 [xP 0 0] [oB 71 (bs (z01 a0))] (z28 r) (z29 r)) (ih_parse_reader_parens : ∀ (a0 : z00) (r : (z00 × z03)), z11 n a0 = some r → Cs Tryz.prog (GX X) 184 [xP 0 0] [oB 71 (bs (z01 a0))] (z2e r) (z2f r)) (a0 : z00) (r : (z00 × z03)) (h : z0c (n + 1) a0 = some r) : Cs Tryz.prog (GX X) 174 [xP 0 0] [oB 71 (bs (z01 a0))] (z22 r) (z23 r) := by
 refine fnT (cx := cx X) Tryz.f174 Tryz.call174 Tryz.func174 (by kernel_rfl) ?_
 rw [z0c] at h
 obtain ⟨v1, k1, h⟩ := z0b h
 refine adv (ok X) 6 [.s (z3e v1) (z3f a0 v1)] (pA (z3t (X := X) k1) pT) (by kernel_rfl) ?_
 rcases iteE h with ⟨k2, h⟩ | ⟨k2, h⟩
 ·obtain ⟨v2, k3, h⟩ := z0b h
  obtain rfl := retE h
  exact fin (ok X) 4 [.b true, .s (z28 v2) (z29 v2)] (pA k2 (pA (ih_parse_reader_negated _ _ k3) pT)) (by kernel_rfl)
 ·obtain ⟨v3, k4, h⟩ := z0b h
  refine adv (ok X) 3 [.b false, .s (z3e v3) (z3f a0 v3)] (pA k2 (pA (z3t (X := X) k4) pT)) (by kernel_rfl) ?_
  rcases iteE h with ⟨k5, h⟩ | ⟨k5, h⟩
  ·obtain ⟨v4, k6, h⟩ := z0b h
   obtain rfl := retE h
   exact fin (ok X) 4 [.b true, .s (z2e v4) (z2f v4)] (pA k5 (pA (ih_parse_reader_parens _ _ k6) pT)) (by kernel_rfl)
  ·obtain ⟨v5, k7, h⟩ := z0b h
   refine adv (ok X) 3 [.b false, .s (z67 v5) (z68 a0 v5)] (pA k5 (pA (z7r (X := X) k7) pT)) (by kernel_rfl) ?_
   rcases iteE h with ⟨k8, h⟩ | ⟨k8, h⟩
   ·obtain ⟨v6, k9, h⟩ := z0b h
    obtain rfl := retE h
    exact fin (ok X) 4 [.b true, .s (z4c v6) (z4d v6)] (pA k8 (pA (z59 (X := X) k9) pT)) (by kernel_rfl)
   ·obtain ⟨v7, k10, h⟩ := z0b h
    obtain rfl := retE h
    exact fin (ok X) 6 [.b false, .s (z17 v7) (z18 v7)] (pA k8 (pA (z1b (X := X) k10) pT)) (by kernel_rfl)

theorem zaf {n : Nat} (ih_parse_reader_expr : ∀ (a0 : z00) (r : (z00 × z03)), z10 n a0 = some r → Cs Tryz.prog (GX X) 141 [xP 0 0] [oB 71 (bs (z01 a0))] (z1p r) (z1q r)) (ih_parse_reader_chain_parse_reader_term : ∀ (a0 : z00) (a2 : (List ByteArray)) (a3 : Int) (r : (z00 × z03)), z07 n a0 a2 a3 = some r → Cs Tryz.prog (GX X) 160 [xP 0 0, .fn (.func 161) [.box 0 0] [], xL (List.map z4e a2), xI a3] [oB 71 (bs (z01 a0))] (z0t r) (z0u r)) (ih_parse_reader_term : ∀ (a0 : z00) (r : (z00 × z03)), z0x n a0 = some r → Cs Tryz.prog (GX X) 161 [xP 0 0] [oB 71 (bs (z01 a0))] (z2i r) (z2j r)) (ih_parse_reader_chain_parse_reader_factor : ∀ (a0 : z00) (a2 : (List ByteArray)) (a3 : Int) (r : (z00 × z03)), z06 n a0 a2 a3 = some r → Cs Tryz.prog (GX X) 160 [xP 0 0, .fn (.func 174) [.box 0 0] [], xL (List.map z4e a2), xI a3] [oB 71 (bs (z01 a0))] (z0m r) (z0n r)) (ih_parse_reader_factor : ∀ (a0 : z00) (r : (z00 × z03)), z0c n a0 = some r → Cs Tryz.prog (GX X) 174 [xP 0 0] [oB 71 (bs (z01 a0))] (z22 r) (z23 r)) (ih_parse_reader_negated : ∀ (a0 : z00) (r : (z00 × z03)), z0y n a0 = some r → Cs Tryz.prog (GX X) 183 [xP 0 0] [oB 71 (bs (z01 a0))] (z28 r) (z29 r)) (ih_parse_reader_parens : ∀ (a0 : z00) (r : (z00 × z03)), z11 n a0 = some r → Cs Tryz.prog (GX X) 184 [xP 0 0] [oB 71 (bs (z01 a0))] (z2e r) (z2f r)) (a0 : z00) (r : (z00 × z03)) (h : z0y (n + 1) a0 = some r) : Cs Tryz.prog (GX X) 183 [xP 0 0] [oB 71 (bs (z01 a0))] (z28 r) (z29 r) := by
 refine fnT (cx := cx X) Tryz.f183 Tryz.call183 Tryz.func183 (by kernel_rfl) ?_
 rw [z0y] at h
 obtain ⟨v1, k1, h⟩ := z0b h
 refine adv (ok X) 5 [.s (z6i v1) (z6j v1)] (pA (z8c (X := X) k1) pT) (by kernel_rfl) ?_
 rcases iteE h with ⟨k2, h⟩ | ⟨k2, h⟩
 ·obtain rfl := retE h
  exact fin (ok X) 4 [.b true] (pA k2 pT) (by kernel_rfl)
 ·obtain ⟨v2, k3, h⟩ := z0b h
  obtain ⟨v3, k4, h⟩ := z0b h
  obtain rfl := retE h
  exact fin (ok X) 11 [.b false, .s (z0f v2) (z0g v2), .s (z22 v3) (z23 v3), .bl (List.map z0q [v3.2])] (pA k2 (pA (z0i (X := X) k3) (pA (ih_parse_reader_factor _ _ k4) (pA (blc (e := z0q) (x := v3.2) (z3r _).symm (bl0 z0q)) pT)))) (by kernel_rfl)

theorem zaz {n : Nat} (ih_parse_reader_expr : ∀ (a0 : z00) (r : (z00 × z03)), z10 n a0 = some r → Cs Tryz.prog (GX X) 141 [xP 0 0] [oB 71 (bs (z01 a0))] (z1p r) (z1q r)) (ih_parse_reader_chain_parse_reader_term : ∀ (a0 : z00) (a2 : (List ByteArray)) (a3 : Int) (r : (z00 × z03)), z07 n a0 a2 a3 = some r → Cs Tryz.prog (GX X) 160 [xP 0 0, .fn (.func 161) [.box 0 0] [], xL (List.map z4e a2), xI a3] [oB 71 (bs (z01 a0))] (z0t r) (z0u r)) (ih_parse_reader_term : ∀ (a0 : z00) (r : (z00 × z03)), z0x n a0 = some r → Cs Tryz.prog (GX X) 161 [xP 0 0] [oB 71 (bs (z01 a0))] (z2i r) (z2j r)) (ih_parse_reader_chain_parse_reader_factor : ∀ (a0 : z00) (a2 : (List ByteArray)) (a3 : Int) (r : (z00 × z03)), z06 n a0 a2 a3 = some r → Cs Tryz.prog (GX X) 160 [xP 0 0, .fn (.func 174) [.box 0 0] [], xL (List.map z4e a2), xI a3] [oB 71 (bs (z01 a0))] (z0m r) (z0n r)) (ih_parse_reader_factor : ∀ (a0 : z00) (r : (z00 × z03)), z0c n a0 = some r → Cs Tryz.prog (GX X) 174 [xP 0 0] [oB 71 (bs (z01 a0))] (z22 r) (z23 r)) (ih_parse_reader_negated : ∀ (a0 : z00) (r : (z00 × z03)), z0y n a0 = some r → Cs Tryz.prog (GX X) 183 [xP 0 0] [oB 71 (bs (z01 a0))] (z28 r) (z29 r)) (ih_parse_reader_parens : ∀ (a0 : z00) (r : (z00 × z03)), z11 n a0 = some r → Cs Tryz.prog (GX X) 184 [xP 0 0] [oB 71 (bs (z01 a0))] (z2e r) (z2f r)) (a0 : z00) (r : (z00 × z03)) (h : z11 (n + 1) a0 = some r) : Cs Tryz.prog (GX X) 184 [xP 0 0] [oB 71 (bs (z01 a0))] (z2e r) (z2f r) := by
 refine fnT (cx := cx X) Tryz.f184 Tryz.call184 Tryz.func184 (by kernel_rfl) ?_
 rw [z11] at h
 obtain ⟨v1, k1, h⟩ := z0b h
 refine adv (ok X) 5 [.s (z6i v1) (z6j v1)] (pA (z8c (X := X) k1) pT) (by kernel_rfl) ?_
 rcases iteE h with ⟨k2, h⟩ | ⟨k2, h⟩
 ·obtain rfl := retE h
  exact fin (ok X) 4 [.b true] (pA k2 pT) (by kernel_rfl)
 ·obtain ⟨v2, k3, h⟩ := z0b h
  obtain ⟨v3, k4, h⟩ := z0b h
  obtain ⟨v4, k5, h⟩ := z0b h
  obtain rfl := retE h
  exact fin (ok X) 13 [.b false, .s (z0f v2) (z0g v2), .s (z1p v3) (z1q v3), .s (z0f v4) (z0g v4)] (pA k2 (pA (z0i (X := X) k3) (pA (ih_parse_reader_expr _ _ k4) (pA (z0i (X := X) k5) pT)))) (by kernel_rfl)

theorem z82 : ∀ n : Nat, (∀ (a0 : z00) (r : (z00 × z03)), z10 n a0 = some r → Cs Tryz.prog (GX X) 141 [xP 0 0] [oB 71 (bs (z01 a0))] (z1p r) (z1q r)) ∧ (∀ (a0 : z00) (a2 : (List ByteArray)) (a3 : Int) (r : (z00 × z03)), z07 n a0 a2 a3 = some r → Cs Tryz.prog (GX X) 160 [xP 0 0, .fn (.func 161) [.box 0 0] [], xL (List.map z4e a2), xI a3] [oB 71 (bs (z01 a0))] (z0t r) (z0u r)) ∧ (∀ (a0 : z00) (r : (z00 × z03)), z0x n a0 = some r → Cs Tryz.prog (GX X) 161 [xP 0 0] [oB 71 (bs (z01 a0))] (z2i r) (z2j r)) ∧ (∀ (a0 : z00) (a2 : (List ByteArray)) (a3 : Int) (r : (z00 × z03)), z06 n a0 a2 a3 = some r → Cs Tryz.prog (GX X) 160 [xP 0 0, .fn (.func 174) [.box 0 0] [], xL (List.map z4e a2), xI a3] [oB 71 (bs (z01 a0))] (z0m r) (z0n r)) ∧ (∀ (a0 : z00) (r : (z00 × z03)), z0c n a0 = some r → Cs Tryz.prog (GX X) 174 [xP 0 0] [oB 71 (bs (z01 a0))] (z22 r) (z23 r)) ∧ (∀ (a0 : z00) (r : (z00 × z03)), z0y n a0 = some r → Cs Tryz.prog (GX X) 183 [xP 0 0] [oB 71 (bs (z01 a0))] (z28 r) (z29 r)) ∧ (∀ (a0 : z00) (r : (z00 × z03)), z11 n a0 = some r → Cs Tryz.prog (GX X) 184 [xP 0 0] [oB 71 (bs (z01 a0))] (z2e r) (z2f r))
 | 0 => ⟨(fun _ _ h => by rw [z10] at h; cases h), (fun _ _ _ _ h => by rw [z07] at h; cases h), (fun _ _ h => by rw [z0x] at h; cases h), (fun _ _ _ _ h => by rw [z06] at h; cases h), (fun _ _ h => by rw [z0c] at h; cases h), (fun _ _ h => by rw [z0y] at h; cases h), (fun _ _ h => by rw [z11] at h; cases h)⟩
 | n + 1 => by
  have ih := z82 n
  exact ⟨zc8 ih.1 ih.2.1 ih.2.2.1 ih.2.2.2.1 ih.2.2.2.2.1 ih.2.2.2.2.2.1 ih.2.2.2.2.2.2, z6f ih.1 ih.2.1 ih.2.2.1 ih.2.2.2.1 ih.2.2.2.2.1 ih.2.2.2.2.2.1 ih.2.2.2.2.2.2, zc9 ih.1 ih.2.1 ih.2.2.1 ih.2.2.2.1 ih.2.2.2.2.1 ih.2.2.2.2.2.1 ih.2.2.2.2.2.2, z5x ih.1 ih.2.1 ih.2.2.1 ih.2.2.2.1 ih.2.2.2.2.1 ih.2.2.2.2.2.1 ih.2.2.2.2.2.2, zay ih.1 ih.2.1 ih.2.2.1 ih.2.2.2.1 ih.2.2.2.2.1 ih.2.2.2.2.2.1 ih.2.2.2.2.2.2, zaf ih.1 ih.2.1 ih.2.2.1 ih.2.2.2.1 ih.2.2.2.2.1 ih.2.2.2.2.2.1 ih.2.2.2.2.2.2, zaz ih.1 ih.2.1 ih.2.2.1 ih.2.2.2.1 ih.2.2.2.2.1 ih.2.2.2.2.2.1 ih.2.2.2.2.2.2⟩

theorem z5m {a0 : z00} {r : (z00 × z03)} (h : z3k a0 = some r) : Cs Tryz.prog (GX X) 141 [xP 0 0] [oB 71 (bs (z01 a0))] (z1p r) (z1q r) := by
 obtain ⟨n, hn⟩ := unfE h
 exact (z82 n).1 _ _ hn

theorem zca {a0 : z00} {r : (z00 × z02)} (h : z4u a0 = some r) : Cs Tryz.prog (GX X) 118 [xP 0 0] [oB 71 (bs (z01 a0))] (z8s r) (z8t r) := by
 refine fnT (cx := cx X) Tryz.f118 Tryz.call118 Tryz.func118 (by kernel_rfl) ?_
 unfold z4u at h
 obtain ⟨v1, k1, h⟩ := z0b h
 obtain ⟨v2, k2, h⟩ := z0b h
 obtain ⟨v3, k3, h⟩ := z0b h
 obtain ⟨v4, k4, h⟩ := z0b h
 obtain ⟨v5, k5, h⟩ := z0b h
 obtain ⟨v6, k6, h⟩ := z0b h
 obtain ⟨v7, k7, h⟩ := z0b h
 obtain rfl := retE h
 exact fin (ok X) 19 [.s (z17 v1) (z18 v1), .s (z0f v2) (z0g v2), .s (z17 v3) (z18 v3), .s (z0f v4) (z0g v4), .s (z1p v5) (z1q v5), .s (z0f v6) (z0g v6), .s (z0f v7) (z0g v7)] (pA (z1b (X := X) k1) (pA (z0i (X := X) k2) (pA (z1b (X := X) k3) (pA (z0i (X := X) k4) (pA (z5m (X := X) k5) (pA (z0i (X := X) k6) (pA (z0i (X := X) k7) pT))))))) (by kernel_rfl)

theorem z6y {a0 : z00} {r : (z00 × z33)} (h : z3l a0 = some r) : Cs Tryz.prog (GX X) 139 [xP 0 0] [oB 71 (bs (z01 a0))] (z5j r) (z5k r) := by
 refine fnT (cx := cx X) Tryz.f139 Tryz.call139 Tryz.func139 (by kernel_rfl) ?_
 unfold z3l at h
 obtain ⟨v1, k1, h⟩ := z0b h
 obtain ⟨v2, k2, h⟩ := z0b h
 obtain ⟨v3, k3, h⟩ := z0b h
 refine adv (ok X) 11 [.s (z0f v1) (z0g v1), .s (z1p v2) (z1q v2), .s (z4m v3) (z4n v3)] (pA (z0i (X := X) k1) (pA (z5m (X := X) k2) (pA (z5g (X := X) k3) pT))) (by kernel_rfl) ?_
 rcases iteE h with ⟨k4, h⟩ | ⟨k4, h⟩
 ·obtain ⟨v4, k5, h⟩ := z0b h
  obtain rfl := retE h
  exact fin (ok X) 6 [.b true, .s (z3g v4) (z3h v4)] (pA k4 (pA (z3u (X := X) k5) pT)) (by kernel_rfl)
 ·obtain ⟨v5, k6, h⟩ := z0b h
  obtain ⟨v6, k7, h⟩ := z0b h
  obtain rfl := retE h
  exact fin (ok X) 11 [.b false, .s (z1p v5) (z1q v5), .s (z0f v6) (z0g v6)] (pA k4 (pA (z5m (X := X) k6) (pA (z0i (X := X) k7) pT))) (by kernel_rfl)

theorem zb0 {a0 : z00} {r : (z00 × z02)} (h : z47 a0 = some r) : Cs Tryz.prog (GX X) 120 [xP 0 0] [oB 71 (bs (z01 a0))] (z7w r) (z7x r) := by
 refine fnT (cx := cx X) Tryz.f120 Tryz.call120 Tryz.func120 (by kernel_rfl) ?_
 unfold z47 at h
 obtain ⟨v1, k1, h⟩ := z0b h
 obtain ⟨v2, k2, h⟩ := z0b h
 obtain rfl := retE h
 exact fin (ok X) 9 [.s (z5j v1) (z5k v1), .s (z0f v2) (z0g v2)] (pA (z6y (X := X) k1) (pA (z0i (X := X) k2) pT)) (by kernel_rfl)

theorem zbj {a0 : z00} {r : (z00 × z02)} (h : z4i a0 = some r) : Cs Tryz.prog (GX X) 121 [xP 0 0] [oB 71 (bs (z01 a0))] (z8a r) (z8b r) := by
 refine fnT (cx := cx X) Tryz.f121 Tryz.call121 Tryz.func121 (by kernel_rfl) ?_
 unfold z4i at h
 obtain ⟨v1, k1, h⟩ := z0b h
 obtain ⟨v2, k2, h⟩ := z0b h
 obtain rfl := retE h
 exact fin (ok X) 9 [.s (z17 v1) (z18 v1), .s (z0f v2) (z0g v2)] (pA (z1b (X := X) k1) (pA (z0i (X := X) k2) pT)) (by kernel_rfl)

theorem zb1 {a0 : z00} {r : (z00 × z02)} (h : z48 a0 = some r) : Cs Tryz.prog (GX X) 122 [xP 0 0] [oB 71 (bs (z01 a0))] (z7y r) (z7z r) := by
 refine fnT (cx := cx X) Tryz.f122 Tryz.call122 Tryz.func122 (by kernel_rfl) ?_
 unfold z48 at h
 obtain ⟨v1, k1, h⟩ := z0b h
 obtain ⟨v2, k2, h⟩ := z0b h
 obtain ⟨v3, k3, h⟩ := z0b h
 obtain ⟨v4, k4, h⟩ := z0b h
 obtain rfl := retE h
 exact fin (ok X) 13 [.s (z17 v1) (z18 v1), .s (z0f v2) (z0g v2), .s (z1p v3) (z1q v3), .s (z0f v4) (z0g v4)] (pA (z1b (X := X) k1) (pA (z0i (X := X) k2) (pA (z5m (X := X) k3) (pA (z0i (X := X) k4) pT)))) (by kernel_rfl)

theorem zbk {n : Nat} (ih_parse_reader_stmts : ∀ (a0 : z00) (r : (z00 × (List z02))), z0v n a0 = some r → Cs Tryz.prog (GX X) 61 [xP 0 0] [oB 71 (bs (z01 a0))] (z1w r) (z1x r)) (ih_parse_reader_stmt : ∀ (a0 : z00) (r : (z00 × z02 × Bool)), z0h n a0 = some r → Cs Tryz.prog (GX X) 98 [xP 0 0] [oB 71 (bs (z01 a0))] (z2v r) (z2w r)) (ih_parse_reader_conditional : ∀ (a0 : z00) (r : (z00 × z02)), z0o n a0 = some r → Cs Tryz.prog (GX X) 116 [xP 0 0] [oB 71 (bs (z01 a0))] (z1s r) (z1t r)) (ih_parse_reader_loop : ∀ (a0 : z00) (r : (z00 × z02)), z19 n a0 = some r → Cs Tryz.prog (GX X) 117 [xP 0 0] [oB 71 (bs (z01 a0))] (z2x r) (z2y r)) (ih_parse_reader_recv : ∀ (a0 : z00) (r : (z00 × z02)), z16 n a0 = some r → Cs Tryz.prog (GX X) 119 [xP 0 0] [oB 71 (bs (z01 a0))] (z2k r) (z2l r)) (ih_parse_reader_block : ∀ (a0 : z00) (r : (z00 × (List z02))), z0d n a0 = some r → Cs Tryz.prog (GX X) 140 [xP 0 0] [oB 71 (bs (z01 a0))] (z1y r) (z1z r)) (ih_parse_reader_arm : ∀ (a0 : z00) (r : (z00 × z0r)), z0z n a0 = some r → Cs Tryz.prog (GX X) 142 [xP 0 0] [oB 71 (bs (z01 a0))] (z2s r) (z2t r)) (a0 : z00) (r : (z00 × (List z02))) (h : z0v (n + 1) a0 = some r) : Cs Tryz.prog (GX X) 61 [xP 0 0] [oB 71 (bs (z01 a0))] (z1w r) (z1x r) := by
 refine fnT (cx := cx X) Tryz.f61 Tryz.call61 Tryz.func61 (by kernel_rfl) ?_
 rw [z0v] at h
 refine adv (ok X) 4 [] pT (by kernel_rfl) ?_
 refine lp (ok X) (z57 (z0v n) (z0h n) (z0o n) (z19 n) (z16 n) (z0d n) (z0z n)) (fun (x1 : ((List z08) × Int × Int × Int × Int × Int × (List z02))) => ⟨18, 1, [(0, [xP 0 0]), (3, [xR 1])], [oB 71 (bs (z01 (z00.mk x1.1 x1.2.1 x1.2.2.1 x1.2.2.2.1 x1.2.2.2.2.1 x1.2.2.2.2.2.1))), oR true 108 19 (List.map z0s x1.2.2.2.2.2.2)]⟩) (fun (j1 : Unit) => ⟨18, 1, [], [none]⟩) zbi (a0.f_l, a0.f_end, a0.f_e, a0.f_at, a0.f_deep, a0.f_in, []) (fun _ => ⟨_, _, _, _, rfl⟩) h (by kernel_rfl) (fun x1 o h => ?_) (fun r' h => ?_) (fun j1 h => ?_)
 ·unfold z57 at h
  obtain ⟨v1, k1, h⟩ := z0b h
  refine adv (ok X) 6 [.s (z2v v1) (z2w v1)] (pA (ih_parse_reader_stmt _ _ k1) pT) (by kernel_rfl) ?_
  rcases iteE h with ⟨k2, h⟩ | ⟨k2, h⟩
  ·obtain rfl := retE h
   exact fin (ok X) 4 [.b true] (pA k2 pT) (by kernel_rfl)
  ·obtain ⟨v2, k3, h⟩ := z0b h
   obtain rfl := retE h
   exact fin (ok X) 4 [.b false, .bl (List.map z0s [v1.2.1]), .l (List.map z0s v2)] (pA k2 (pA (blc (e := z0s) (x := v1.2.1) (z2r _).symm (bl0 z0s)) (pA (apm (L := x1.2.2.2.2.2.2) (M := [v1.2.1]) zbo k3) pT))) (by kernel_rfl)
 ·obtain rfl := retE h
  kernel_rfl
 ·cases h

theorem zcb {n : Nat} (ih_parse_reader_stmts : ∀ (a0 : z00) (r : (z00 × (List z02))), z0v n a0 = some r → Cs Tryz.prog (GX X) 61 [xP 0 0] [oB 71 (bs (z01 a0))] (z1w r) (z1x r)) (ih_parse_reader_stmt : ∀ (a0 : z00) (r : (z00 × z02 × Bool)), z0h n a0 = some r → Cs Tryz.prog (GX X) 98 [xP 0 0] [oB 71 (bs (z01 a0))] (z2v r) (z2w r)) (ih_parse_reader_conditional : ∀ (a0 : z00) (r : (z00 × z02)), z0o n a0 = some r → Cs Tryz.prog (GX X) 116 [xP 0 0] [oB 71 (bs (z01 a0))] (z1s r) (z1t r)) (ih_parse_reader_loop : ∀ (a0 : z00) (r : (z00 × z02)), z19 n a0 = some r → Cs Tryz.prog (GX X) 117 [xP 0 0] [oB 71 (bs (z01 a0))] (z2x r) (z2y r)) (ih_parse_reader_recv : ∀ (a0 : z00) (r : (z00 × z02)), z16 n a0 = some r → Cs Tryz.prog (GX X) 119 [xP 0 0] [oB 71 (bs (z01 a0))] (z2k r) (z2l r)) (ih_parse_reader_block : ∀ (a0 : z00) (r : (z00 × (List z02))), z0d n a0 = some r → Cs Tryz.prog (GX X) 140 [xP 0 0] [oB 71 (bs (z01 a0))] (z1y r) (z1z r)) (ih_parse_reader_arm : ∀ (a0 : z00) (r : (z00 × z0r)), z0z n a0 = some r → Cs Tryz.prog (GX X) 142 [xP 0 0] [oB 71 (bs (z01 a0))] (z2s r) (z2t r)) (a0 : z00) (r : (z00 × z02 × Bool)) (h : z0h (n + 1) a0 = some r) : Cs Tryz.prog (GX X) 98 [xP 0 0] [oB 71 (bs (z01 a0))] (z2v r) (z2w r) := by
 refine fnT (cx := cx X) Tryz.f98 Tryz.call98 Tryz.func98 (by kernel_rfl) ?_
 rw [z0h] at h
 obtain ⟨v1, k1, h⟩ := z0b h
 refine adv (ok X) 6 [.s (z1n v1) (z1o v1)] (pA (z1v (X := X) k1) pT) (by kernel_rfl) ?_
 rcases iteE h with ⟨k2, h⟩ | ⟨k2, h⟩
 ·obtain ⟨v2, k3, h⟩ := z0b h
  obtain rfl := retE h
  exact fin (ok X) 4 [.b true, .s (z1s v2) (z1t v2)] (pA k2 (pA (ih_parse_reader_conditional _ _ k3) pT)) (by kernel_rfl)
 ·obtain ⟨v3, k4, h⟩ := z0b h
  refine adv (ok X) 3 [.b false, .s (z1n v3) (z1o v3)] (pA k2 (pA (z1v (X := X) k4) pT)) (by kernel_rfl) ?_
  rcases iteE h with ⟨k5, h⟩ | ⟨k5, h⟩
  ·obtain ⟨v4, k6, h⟩ := z0b h
   obtain rfl := retE h
   exact fin (ok X) 4 [.b true, .s (z2x v4) (z2y v4)] (pA k5 (pA (ih_parse_reader_loop _ _ k6) pT)) (by kernel_rfl)
  ·obtain ⟨v5, k7, h⟩ := z0b h
   refine adv (ok X) 3 [.b false, .s (z1n v5) (z1o v5)] (pA k5 (pA (z1v (X := X) k7) pT)) (by kernel_rfl) ?_
   rcases iteE h with ⟨k8, h⟩ | ⟨k8, h⟩
   ·obtain ⟨v6, k9, h⟩ := z0b h
    obtain rfl := retE h
    exact fin (ok X) 4 [.b true, .s (z8s v6) (z8t v6)] (pA k8 (pA (zca (X := X) k9) pT)) (by kernel_rfl)
   ·obtain ⟨v7, k10, h⟩ := z0b h
    refine adv (ok X) 3 [.b false, .s (z1n v7) (z1o v7)] (pA k8 (pA (z1v (X := X) k10) pT)) (by kernel_rfl) ?_
    rcases iteE h with ⟨k11, h⟩ | ⟨k11, h⟩
    ·obtain ⟨v8, k12, h⟩ := z0b h
     obtain rfl := retE h
     exact fin (ok X) 4 [.b true, .s (z2k v8) (z2l v8)] (pA k11 (pA (ih_parse_reader_recv _ _ k12) pT)) (by kernel_rfl)
    ·obtain ⟨v9, k13, h⟩ := z0b h
     refine adv (ok X) 3 [.b false, .s (z1n v9) (z1o v9)] (pA k11 (pA (z1v (X := X) k13) pT)) (by kernel_rfl) ?_
     rcases iteE h with ⟨k14, h⟩ | ⟨k14, h⟩
     ·obtain ⟨v10, k15, h⟩ := z0b h
      obtain rfl := retE h
      exact fin (ok X) 4 [.b true, .s (z7w v10) (z7x v10)] (pA k14 (pA (zb0 (X := X) k15) pT)) (by kernel_rfl)
     ·obtain ⟨v11, k16, h⟩ := z0b h
      refine adv (ok X) 3 [.b false, .s (z1n v11) (z1o v11)] (pA k14 (pA (z1v (X := X) k16) pT)) (by kernel_rfl) ?_
      rcases iteE h with ⟨k17, h⟩ | ⟨k17, h⟩
      ·obtain ⟨v12, k18, h⟩ := z0b h
       obtain rfl := retE h
       exact fin (ok X) 4 [.b true, .s (z8a v12) (z8b v12)] (pA k17 (pA (zbj (X := X) k18) pT)) (by kernel_rfl)
      ·obtain ⟨v13, k19, h⟩ := z0b h
       refine adv (ok X) 3 [.b false, .s (z67 v13) (z68 v11.1 v13)] (pA k17 (pA (z7r (X := X) k19) pT)) (by kernel_rfl) ?_
       rcases iteE h with ⟨k20, h⟩ | ⟨k20, h⟩
       ·obtain ⟨v14, k21, h⟩ := z0b h
        obtain rfl := retE h
        exact fin (ok X) 4 [.b true, .s (z7y v14) (z7z v14)] (pA k20 (pA (zb1 (X := X) k21) pT)) (by kernel_rfl)
       ·obtain rfl := retE h
        exact fin (ok X) 6 [.b false] (pA k20 pT) (by kernel_rfl)

theorem z8x {n : Nat} (ih_parse_reader_stmts : ∀ (a0 : z00) (r : (z00 × (List z02))), z0v n a0 = some r → Cs Tryz.prog (GX X) 61 [xP 0 0] [oB 71 (bs (z01 a0))] (z1w r) (z1x r)) (ih_parse_reader_stmt : ∀ (a0 : z00) (r : (z00 × z02 × Bool)), z0h n a0 = some r → Cs Tryz.prog (GX X) 98 [xP 0 0] [oB 71 (bs (z01 a0))] (z2v r) (z2w r)) (ih_parse_reader_conditional : ∀ (a0 : z00) (r : (z00 × z02)), z0o n a0 = some r → Cs Tryz.prog (GX X) 116 [xP 0 0] [oB 71 (bs (z01 a0))] (z1s r) (z1t r)) (ih_parse_reader_loop : ∀ (a0 : z00) (r : (z00 × z02)), z19 n a0 = some r → Cs Tryz.prog (GX X) 117 [xP 0 0] [oB 71 (bs (z01 a0))] (z2x r) (z2y r)) (ih_parse_reader_recv : ∀ (a0 : z00) (r : (z00 × z02)), z16 n a0 = some r → Cs Tryz.prog (GX X) 119 [xP 0 0] [oB 71 (bs (z01 a0))] (z2k r) (z2l r)) (ih_parse_reader_block : ∀ (a0 : z00) (r : (z00 × (List z02))), z0d n a0 = some r → Cs Tryz.prog (GX X) 140 [xP 0 0] [oB 71 (bs (z01 a0))] (z1y r) (z1z r)) (ih_parse_reader_arm : ∀ (a0 : z00) (r : (z00 × z0r)), z0z n a0 = some r → Cs Tryz.prog (GX X) 142 [xP 0 0] [oB 71 (bs (z01 a0))] (z2s r) (z2t r)) (a0 : z00) (r : (z00 × z02)) (h : z0o (n + 1) a0 = some r) : Cs Tryz.prog (GX X) 116 [xP 0 0] [oB 71 (bs (z01 a0))] (z1s r) (z1t r) := by
 refine fnT (cx := cx X) Tryz.f116 Tryz.call116 Tryz.func116 (by kernel_rfl) ?_
 rw [z0o] at h
 obtain ⟨v1, k1, h⟩ := z0b h
 obtain ⟨v2, k2, h⟩ := z0b h
 obtain ⟨v3, k3, h⟩ := z0b h
 refine adv (ok X) 9 [.s (z5j v1) (z5k v1), .s (z1y v2) (z1z v2), .s (z1n v3) (z1o v3)] (pA (z6y (X := X) k1) (pA (ih_parse_reader_block _ _ k2) (pA (z1v (X := X) k3) pT))) (by kernel_rfl) ?_
 rcases iteE h with ⟨k4, h⟩ | ⟨k4, h⟩
 ·obtain ⟨v4, k5, h⟩ := z0b h
  obtain rfl := retE h
  exact fin (ok X) 5 [.b true, .s (z1y v4) (z1z v4)] (pA k4 (pA (ih_parse_reader_block _ _ k5) pT)) (by kernel_rfl)
 ·obtain rfl := retE h
  exact fin (ok X) 5 [.b false] (pA k4 pT) (by kernel_rfl)

theorem zcc {n : Nat} (ih_parse_reader_stmts : ∀ (a0 : z00) (r : (z00 × (List z02))), z0v n a0 = some r → Cs Tryz.prog (GX X) 61 [xP 0 0] [oB 71 (bs (z01 a0))] (z1w r) (z1x r)) (ih_parse_reader_stmt : ∀ (a0 : z00) (r : (z00 × z02 × Bool)), z0h n a0 = some r → Cs Tryz.prog (GX X) 98 [xP 0 0] [oB 71 (bs (z01 a0))] (z2v r) (z2w r)) (ih_parse_reader_conditional : ∀ (a0 : z00) (r : (z00 × z02)), z0o n a0 = some r → Cs Tryz.prog (GX X) 116 [xP 0 0] [oB 71 (bs (z01 a0))] (z1s r) (z1t r)) (ih_parse_reader_loop : ∀ (a0 : z00) (r : (z00 × z02)), z19 n a0 = some r → Cs Tryz.prog (GX X) 117 [xP 0 0] [oB 71 (bs (z01 a0))] (z2x r) (z2y r)) (ih_parse_reader_recv : ∀ (a0 : z00) (r : (z00 × z02)), z16 n a0 = some r → Cs Tryz.prog (GX X) 119 [xP 0 0] [oB 71 (bs (z01 a0))] (z2k r) (z2l r)) (ih_parse_reader_block : ∀ (a0 : z00) (r : (z00 × (List z02))), z0d n a0 = some r → Cs Tryz.prog (GX X) 140 [xP 0 0] [oB 71 (bs (z01 a0))] (z1y r) (z1z r)) (ih_parse_reader_arm : ∀ (a0 : z00) (r : (z00 × z0r)), z0z n a0 = some r → Cs Tryz.prog (GX X) 142 [xP 0 0] [oB 71 (bs (z01 a0))] (z2s r) (z2t r)) (a0 : z00) (r : (z00 × z02)) (h : z19 (n + 1) a0 = some r) : Cs Tryz.prog (GX X) 117 [xP 0 0] [oB 71 (bs (z01 a0))] (z2x r) (z2y r) := by
 refine fnT (cx := cx X) Tryz.f117 Tryz.call117 Tryz.func117 (by kernel_rfl) ?_
 rw [z19] at h
 obtain ⟨v1, k1, h⟩ := z0b h
 obtain ⟨v2, k2, h⟩ := z0b h
 obtain rfl := retE h
 exact fin (ok X) 9 [.s (z5j v1) (z5k v1), .s (z1y v2) (z1z v2)] (pA (z6y (X := X) k1) (pA (ih_parse_reader_block _ _ k2) pT)) (by kernel_rfl)

theorem zcd {n : Nat} (ih_parse_reader_stmts : ∀ (a0 : z00) (r : (z00 × (List z02))), z0v n a0 = some r → Cs Tryz.prog (GX X) 61 [xP 0 0] [oB 71 (bs (z01 a0))] (z1w r) (z1x r)) (ih_parse_reader_stmt : ∀ (a0 : z00) (r : (z00 × z02 × Bool)), z0h n a0 = some r → Cs Tryz.prog (GX X) 98 [xP 0 0] [oB 71 (bs (z01 a0))] (z2v r) (z2w r)) (ih_parse_reader_conditional : ∀ (a0 : z00) (r : (z00 × z02)), z0o n a0 = some r → Cs Tryz.prog (GX X) 116 [xP 0 0] [oB 71 (bs (z01 a0))] (z1s r) (z1t r)) (ih_parse_reader_loop : ∀ (a0 : z00) (r : (z00 × z02)), z19 n a0 = some r → Cs Tryz.prog (GX X) 117 [xP 0 0] [oB 71 (bs (z01 a0))] (z2x r) (z2y r)) (ih_parse_reader_recv : ∀ (a0 : z00) (r : (z00 × z02)), z16 n a0 = some r → Cs Tryz.prog (GX X) 119 [xP 0 0] [oB 71 (bs (z01 a0))] (z2k r) (z2l r)) (ih_parse_reader_block : ∀ (a0 : z00) (r : (z00 × (List z02))), z0d n a0 = some r → Cs Tryz.prog (GX X) 140 [xP 0 0] [oB 71 (bs (z01 a0))] (z1y r) (z1z r)) (ih_parse_reader_arm : ∀ (a0 : z00) (r : (z00 × z0r)), z0z n a0 = some r → Cs Tryz.prog (GX X) 142 [xP 0 0] [oB 71 (bs (z01 a0))] (z2s r) (z2t r)) (a0 : z00) (r : (z00 × z02)) (h : z16 (n + 1) a0 = some r) : Cs Tryz.prog (GX X) 119 [xP 0 0] [oB 71 (bs (z01 a0))] (z2k r) (z2l r) := by
 refine fnT (cx := cx X) Tryz.f119 Tryz.call119 Tryz.func119 (by kernel_rfl) ?_
 rw [z16] at h
 obtain ⟨v1, k1, h⟩ := z0b h
 obtain ⟨v2, k2, h⟩ := z0b h
 obtain ⟨v3, k3, h⟩ := z0b h
 obtain ⟨v4, k4, h⟩ := z0b h
 refine adv (ok X) 9 [.s (z17 v1) (z18 v1), .s (z0f v2) (z0g v2), .o [0, 1, 2, 3, 4, 5, 6, 7], .s (z2s v3) (z2t v3), .bl (List.map z1j [v3.2]), .l (List.map z1j v4)] (pA (z1b (X := X) k1) (pA (z0i (X := X) k2) (pA (ih_parse_reader_arm _ _ k3) (pA (blc (e := z1j) (x := v3.2) (z73 _).symm (bl0 z1j)) (pA (apm (L := []) (M := [v3.2]) z9x k4) pT))))) (by kernel_rfl) ?_
 refine lp (ok X) (z43 (z0v n) (z0h n) (z0o n) (z19 n) (z16 n) (z0d n) (z0z n)) (fun (x1 : ((List z08) × Int × Int × Int × Int × Int × (List z0r))) => ⟨36, 1, [(0, [xP 0 0]), (2, [xP 1 0]), (3, [xP 2 0])], [oB 71 (bs (z01 (z00.mk x1.1 x1.2.1 x1.2.2.1 x1.2.2.2.1 x1.2.2.2.2.1 x1.2.2.2.2.2.1))), oB 108 [.pv (.int .i64 0), .pv (.str (ByteArray.mk #[])), .pv (.str (ByteArray.mk #[])), .pv (.int .i64 0), .pv (.int .i64 0), .pv (.str (ByteArray.mk #[])), .emp, .pv (.int .i64 0), .pv (.int .i64 0), .pv (.int .i64 0), .pv (.str (ByteArray.mk #[])), .emp, .pv (.int .i64 0), .pv (.int .i64 0), .pv (.str (ByteArray.mk #[])), .emp, .emp, .emp, .emp], oB 108 [.pv (.int .i64 5), .pv (.str v1.2), .pv (.str (ByteArray.mk #[])), .pv (.int .i64 0), .pv (.int .i64 0), .pv (.str (ByteArray.mk #[])), .emp, .pv (.int .i64 0), .pv (.int .i64 0), .pv (.int .i64 0), .pv (.str (ByteArray.mk #[])), .emp, .pv (.int .i64 0), .pv (.int .i64 0), .pv (.str (ByteArray.mk #[])), .emp, .emp, .emp, .row 3], oR true 156 3 (List.map z1j x1.2.2.2.2.2.2)]⟩) (fun (j1 : ((List z08) × Int × Int × Int × Int × Int × (List z0r))) => ⟨36, 1, [(0, [xP 0 0]), (2, [xP 1 0]), (3, [xP 2 0])], [oB 71 (bs (z01 (z00.mk j1.1 j1.2.1 j1.2.2.1 j1.2.2.2.1 j1.2.2.2.2.1 j1.2.2.2.2.2.1))), oB 108 [.pv (.int .i64 0), .pv (.str (ByteArray.mk #[])), .pv (.str (ByteArray.mk #[])), .pv (.int .i64 0), .pv (.int .i64 0), .pv (.str (ByteArray.mk #[])), .emp, .pv (.int .i64 0), .pv (.int .i64 0), .pv (.int .i64 0), .pv (.str (ByteArray.mk #[])), .emp, .pv (.int .i64 0), .pv (.int .i64 0), .pv (.str (ByteArray.mk #[])), .emp, .emp, .emp, .emp], oB 108 [.pv (.int .i64 5), .pv (.str v1.2), .pv (.str (ByteArray.mk #[])), .pv (.int .i64 0), .pv (.int .i64 0), .pv (.str (ByteArray.mk #[])), .emp, .pv (.int .i64 0), .pv (.int .i64 0), .pv (.int .i64 0), .pv (.str (ByteArray.mk #[])), .emp, .pv (.int .i64 0), .pv (.int .i64 0), .pv (.str (ByteArray.mk #[])), .emp, .emp, .emp, .row 3], oR true 156 3 (List.map z1j j1.2.2.2.2.2.2)]⟩) zc5 (v3.1.f_l, v3.1.f_end, v3.1.f_e, v3.1.f_at, v3.1.f_deep, v3.1.f_in, v4) (fun _ => ⟨_, _, _, _, rfl⟩) h (by kernel_rfl) (fun x1 o h => ?_) (fun r' h => ?_) (fun j1 h => ?_)
 ·unfold z43 at h
  refine adv (ok X) 2 [] pT (by kernel_rfl) ?_
  refine jn (ok X) 1 (fun (j2 : Bool) => ⟨36, 1, [(0, [xP 0 0]), (2, [xP 1 0]), (3, [xP 2 0]), (25, [xB j2])], [oB 71 (bs (z01 (z00.mk x1.1 x1.2.1 x1.2.2.1 x1.2.2.2.1 x1.2.2.2.2.1 x1.2.2.2.2.2.1))), oB 108 [.pv (.int .i64 0), .pv (.str (ByteArray.mk #[])), .pv (.str (ByteArray.mk #[])), .pv (.int .i64 0), .pv (.int .i64 0), .pv (.str (ByteArray.mk #[])), .emp, .pv (.int .i64 0), .pv (.int .i64 0), .pv (.int .i64 0), .pv (.str (ByteArray.mk #[])), .emp, .pv (.int .i64 0), .pv (.int .i64 0), .pv (.str (ByteArray.mk #[])), .emp, .emp, .emp, .emp], oB 108 [.pv (.int .i64 5), .pv (.str v1.2), .pv (.str (ByteArray.mk #[])), .pv (.int .i64 0), .pv (.int .i64 0), .pv (.str (ByteArray.mk #[])), .emp, .pv (.int .i64 0), .pv (.int .i64 0), .pv (.int .i64 0), .pv (.str (ByteArray.mk #[])), .emp, .pv (.int .i64 0), .pv (.int .i64 0), .pv (.str (ByteArray.mk #[])), .emp, .emp, .emp, .row 3], oR true 156 3 (List.map z1j x1.2.2.2.2.2.2)]⟩) h (fun j2 h => ?_) (fun j2 h => ?_)
  ·rcases iteE h with ⟨k5, h⟩ | ⟨k5, h⟩
   ·obtain ⟨v5, k6, h⟩ := z0b h
    obtain rfl := retE h
    exact fin (ok X) 1 [.b true, .b true, .s (z3e v5) (z3f (z00.mk x1.1 x1.2.1 x1.2.2.1 x1.2.2.2.1 x1.2.2.2.2.1 x1.2.2.2.2.2.1) v5), .b true, .b true] (pA k5 (pA k5 (pA (z3t (X := X) k6) (pA k5 (pA k5 pT))))) (by kernel_rfl)
   ·obtain rfl := retE h
    exact fin (ok X) 1 (bF 4 []) (pR 4 k5 pT) (by kernel_rfl)
  ·rcases iteE h with ⟨k7, h⟩ | ⟨k7, h⟩
   ·obtain ⟨v6, k8, h⟩ := z0b h
    obtain ⟨v7, k9, h⟩ := z0b h
    obtain rfl := retE h
    exact fin (ok X) 5 [.b true, .o [0, 1, 2, 3, 4, 5, 6, 7], .s (z2s v6) (z2t v6), .bl (List.map z1j [v6.2]), .l (List.map z1j v7)] (pA k7 (pA (ih_parse_reader_arm _ _ k8) (pA (blc (e := z1j) (x := v6.2) (z73 _).symm (bl0 z1j)) (pA (apm (L := x1.2.2.2.2.2.2) (M := [v6.2]) z9x k9) pT)))) (by kernel_rfl)
   ·obtain rfl := retE h
    exact fin (ok X) 2 [.b false] (pA k7 pT) (by kernel_rfl)
 ·cases h
 ·obtain ⟨v8, k10, h⟩ := z0b h
  obtain rfl := retE h
  exact fin (ok X) 5 [.s (z0f v8) (z0g v8)] (pA (z0i (X := X) k10) pT) (by kernel_rfl)

theorem zbl {n : Nat} (ih_parse_reader_stmts : ∀ (a0 : z00) (r : (z00 × (List z02))), z0v n a0 = some r → Cs Tryz.prog (GX X) 61 [xP 0 0] [oB 71 (bs (z01 a0))] (z1w r) (z1x r)) (ih_parse_reader_stmt : ∀ (a0 : z00) (r : (z00 × z02 × Bool)), z0h n a0 = some r → Cs Tryz.prog (GX X) 98 [xP 0 0] [oB 71 (bs (z01 a0))] (z2v r) (z2w r)) (ih_parse_reader_conditional : ∀ (a0 : z00) (r : (z00 × z02)), z0o n a0 = some r → Cs Tryz.prog (GX X) 116 [xP 0 0] [oB 71 (bs (z01 a0))] (z1s r) (z1t r)) (ih_parse_reader_loop : ∀ (a0 : z00) (r : (z00 × z02)), z19 n a0 = some r → Cs Tryz.prog (GX X) 117 [xP 0 0] [oB 71 (bs (z01 a0))] (z2x r) (z2y r)) (ih_parse_reader_recv : ∀ (a0 : z00) (r : (z00 × z02)), z16 n a0 = some r → Cs Tryz.prog (GX X) 119 [xP 0 0] [oB 71 (bs (z01 a0))] (z2k r) (z2l r)) (ih_parse_reader_block : ∀ (a0 : z00) (r : (z00 × (List z02))), z0d n a0 = some r → Cs Tryz.prog (GX X) 140 [xP 0 0] [oB 71 (bs (z01 a0))] (z1y r) (z1z r)) (ih_parse_reader_arm : ∀ (a0 : z00) (r : (z00 × z0r)), z0z n a0 = some r → Cs Tryz.prog (GX X) 142 [xP 0 0] [oB 71 (bs (z01 a0))] (z2s r) (z2t r)) (a0 : z00) (r : (z00 × (List z02))) (h : z0d (n + 1) a0 = some r) : Cs Tryz.prog (GX X) 140 [xP 0 0] [oB 71 (bs (z01 a0))] (z1y r) (z1z r) := by
 refine fnT (cx := cx X) Tryz.f140 Tryz.call140 Tryz.func140 (by kernel_rfl) ?_
 rw [z0d] at h
 refine adv (ok X) 4 [] pT (by kernel_rfl) ?_
 refine jn (ok X) 1 (fun (j1 : Bool) => ⟨36, 1, [(0, [xP 0 0]), (12, [xB j1])], [oB 71 (bs (z01 a0))]⟩) h (fun j1 h => ?_) (fun j1 h => ?_)
 ·obtain ⟨v1, k1, h⟩ := z0b h
  rcases iteE h with ⟨k2, h⟩ | ⟨k2, h⟩
  ·obtain rfl := retE h
   exact fin (ok X) 1 (.s (z3e v1) (z3f a0 v1) :: bT 6 []) (pA (z3t (X := X) k1) (pR 6 k2 pT)) (by kernel_rfl)
  ·obtain rfl := retE h
   exact fin (ok X) 1 (.s (z3e v1) (z3f a0 v1) :: bF 6 []) (pA (z3t (X := X) k1) (pR 6 k2 pT)) (by kernel_rfl)
 ·rcases iteE h with ⟨k3, h⟩ | ⟨k3, h⟩
  ·obtain ⟨v2, k4, h⟩ := z0b h
   obtain rfl := retE h
   exact fin (ok X) 6 [.b true, .s (z3g v2) (z3h v2)] (pA k3 (pA (z3u (X := X) k4) pT)) (by kernel_rfl)
  ·obtain ⟨v3, k5, h⟩ := z0b h
   obtain ⟨v4, k6, h⟩ := z0b h
   obtain ⟨v5, k7, h⟩ := z0b h
   obtain rfl := retE h
   exact fin (ok X) 15 [.b false, .s (z0f v3) (z0g v3), .s (z1w v4) (z1x v4), .s (z0f v5) (z0g v5)] (pA k3 (pA (z0i (X := X) k5) (pA (ih_parse_reader_stmts _ _ k6) (pA (z0i (X := X) k7) pT)))) (by kernel_rfl)

theorem zcu {n : Nat} (ih_parse_reader_stmts : ∀ (a0 : z00) (r : (z00 × (List z02))), z0v n a0 = some r → Cs Tryz.prog (GX X) 61 [xP 0 0] [oB 71 (bs (z01 a0))] (z1w r) (z1x r)) (ih_parse_reader_stmt : ∀ (a0 : z00) (r : (z00 × z02 × Bool)), z0h n a0 = some r → Cs Tryz.prog (GX X) 98 [xP 0 0] [oB 71 (bs (z01 a0))] (z2v r) (z2w r)) (ih_parse_reader_conditional : ∀ (a0 : z00) (r : (z00 × z02)), z0o n a0 = some r → Cs Tryz.prog (GX X) 116 [xP 0 0] [oB 71 (bs (z01 a0))] (z1s r) (z1t r)) (ih_parse_reader_loop : ∀ (a0 : z00) (r : (z00 × z02)), z19 n a0 = some r → Cs Tryz.prog (GX X) 117 [xP 0 0] [oB 71 (bs (z01 a0))] (z2x r) (z2y r)) (ih_parse_reader_recv : ∀ (a0 : z00) (r : (z00 × z02)), z16 n a0 = some r → Cs Tryz.prog (GX X) 119 [xP 0 0] [oB 71 (bs (z01 a0))] (z2k r) (z2l r)) (ih_parse_reader_block : ∀ (a0 : z00) (r : (z00 × (List z02))), z0d n a0 = some r → Cs Tryz.prog (GX X) 140 [xP 0 0] [oB 71 (bs (z01 a0))] (z1y r) (z1z r)) (ih_parse_reader_arm : ∀ (a0 : z00) (r : (z00 × z0r)), z0z n a0 = some r → Cs Tryz.prog (GX X) 142 [xP 0 0] [oB 71 (bs (z01 a0))] (z2s r) (z2t r)) (a0 : z00) (r : (z00 × z0r)) (h : z0z (n + 1) a0 = some r) : Cs Tryz.prog (GX X) 142 [xP 0 0] [oB 71 (bs (z01 a0))] (z2s r) (z2t r) := by
 refine fnT (cx := cx X) Tryz.f142 Tryz.call142 Tryz.func142 (by kernel_rfl) ?_
 rw [z0z] at h
 obtain ⟨v1, k1, h⟩ := z0b h
 obtain ⟨v2, k2, h⟩ := z0b h
 obtain ⟨v3, k3, h⟩ := z0b h
 obtain ⟨v4, k4, h⟩ := z0b h
 obtain ⟨v5, k5, h⟩ := z0b h
 obtain rfl := retE h
 exact fin (ok X) 15 [.s (z17 v1) (z18 v1), .s (z0f v2) (z0g v2), .s (z17 v3) (z18 v3), .s (z0f v4) (z0g v4), .s (z1y v5) (z1z v5)] (pA (z1b (X := X) k1) (pA (z0i (X := X) k2) (pA (z1b (X := X) k3) (pA (z0i (X := X) k4) (pA (ih_parse_reader_block _ _ k5) pT))))) (by kernel_rfl)

theorem z7m : ∀ n : Nat, (∀ (a0 : z00) (r : (z00 × (List z02))), z0v n a0 = some r → Cs Tryz.prog (GX X) 61 [xP 0 0] [oB 71 (bs (z01 a0))] (z1w r) (z1x r)) ∧ (∀ (a0 : z00) (r : (z00 × z02 × Bool)), z0h n a0 = some r → Cs Tryz.prog (GX X) 98 [xP 0 0] [oB 71 (bs (z01 a0))] (z2v r) (z2w r)) ∧ (∀ (a0 : z00) (r : (z00 × z02)), z0o n a0 = some r → Cs Tryz.prog (GX X) 116 [xP 0 0] [oB 71 (bs (z01 a0))] (z1s r) (z1t r)) ∧ (∀ (a0 : z00) (r : (z00 × z02)), z19 n a0 = some r → Cs Tryz.prog (GX X) 117 [xP 0 0] [oB 71 (bs (z01 a0))] (z2x r) (z2y r)) ∧ (∀ (a0 : z00) (r : (z00 × z02)), z16 n a0 = some r → Cs Tryz.prog (GX X) 119 [xP 0 0] [oB 71 (bs (z01 a0))] (z2k r) (z2l r)) ∧ (∀ (a0 : z00) (r : (z00 × (List z02))), z0d n a0 = some r → Cs Tryz.prog (GX X) 140 [xP 0 0] [oB 71 (bs (z01 a0))] (z1y r) (z1z r)) ∧ (∀ (a0 : z00) (r : (z00 × z0r)), z0z n a0 = some r → Cs Tryz.prog (GX X) 142 [xP 0 0] [oB 71 (bs (z01 a0))] (z2s r) (z2t r))
 | 0 => ⟨(fun _ _ h => by rw [z0v] at h; cases h), (fun _ _ h => by rw [z0h] at h; cases h), (fun _ _ h => by rw [z0o] at h; cases h), (fun _ _ h => by rw [z19] at h; cases h), (fun _ _ h => by rw [z16] at h; cases h), (fun _ _ h => by rw [z0d] at h; cases h), (fun _ _ h => by rw [z0z] at h; cases h)⟩
 | n + 1 => by
  have ih := z7m n
  exact ⟨zbk ih.1 ih.2.1 ih.2.2.1 ih.2.2.2.1 ih.2.2.2.2.1 ih.2.2.2.2.2.1 ih.2.2.2.2.2.2, zcb ih.1 ih.2.1 ih.2.2.1 ih.2.2.2.1 ih.2.2.2.2.1 ih.2.2.2.2.2.1 ih.2.2.2.2.2.2, z8x ih.1 ih.2.1 ih.2.2.1 ih.2.2.2.1 ih.2.2.2.2.1 ih.2.2.2.2.2.1 ih.2.2.2.2.2.2, zcc ih.1 ih.2.1 ih.2.2.1 ih.2.2.2.1 ih.2.2.2.2.1 ih.2.2.2.2.2.1 ih.2.2.2.2.2.2, zcd ih.1 ih.2.1 ih.2.2.1 ih.2.2.2.1 ih.2.2.2.2.1 ih.2.2.2.2.2.1 ih.2.2.2.2.2.2, zbl ih.1 ih.2.1 ih.2.2.1 ih.2.2.2.1 ih.2.2.2.2.1 ih.2.2.2.2.2.1 ih.2.2.2.2.2.2, zcu ih.1 ih.2.1 ih.2.2.1 ih.2.2.2.1 ih.2.2.2.2.1 ih.2.2.2.2.2.1 ih.2.2.2.2.2.2⟩

theorem zbm {a0 : z00} {r : (z00 × (List z02))} (h : z4j a0 = some r) : Cs Tryz.prog (GX X) 61 [xP 0 0] [oB 71 (bs (z01 a0))] (z1w r) (z1x r) := by
 obtain ⟨n, hn⟩ := unfE h
 exact (z7m n).1 _ _ hn

theorem zce {a0 : z00} {r : (z00 × z2d)} (h : z4v a0 = some r) : Cs Tryz.prog (GX X) 23 [xP 0 0] [oB 71 (bs (z01 a0))] (z6w r) (z6x r) := by
 refine fnT (cx := cx X) Tryz.f23 Tryz.call23 Tryz.func23 (by kernel_rfl) ?_
 unfold z4v at h
 obtain ⟨v1, k1, h⟩ := z0b h
 obtain ⟨v2, k2, h⟩ := z0b h
 refine adv (ok X) 7 [.s (z17 v1) (z18 v1), .s (z0f v2) (z0g v2)] (pA (z1b (X := X) k1) (pA (z0i (X := X) k2) pT)) (by kernel_rfl) ?_
 refine lp (ok X) (z2c) (fun (x1 : ((List z08) × Int × Int × Int × Int × Int × (List ByteArray))) => ⟨26, 1, [(0, [xP 0 0]), (2, [xP 1 0]), (3, [xP 2 0])], [oB 71 (bs (z01 (z00.mk x1.1 x1.2.1 x1.2.2.1 x1.2.2.2.1 x1.2.2.2.2.1 x1.2.2.2.2.2.1))), oB 81 [.pv (.str (ByteArray.mk #[])), .emp, .emp], oB 81 [.pv (.str v1.2), .row 3, .emp], oR true 9 1 (List.map z4e x1.2.2.2.2.2.2)]⟩) (fun (j1 : ((List z08) × Int × Int × Int × Int × Int × (List ByteArray))) => ⟨26, 1, [(0, [xP 0 0]), (2, [xP 1 0]), (3, [xP 2 0])], [oB 71 (bs (z01 (z00.mk j1.1 j1.2.1 j1.2.2.1 j1.2.2.2.1 j1.2.2.2.2.1 j1.2.2.2.2.2.1))), oB 81 [.pv (.str (ByteArray.mk #[])), .emp, .emp], oB 81 [.pv (.str v1.2), .row 3, .emp], oR true 9 1 (List.map z4e j1.2.2.2.2.2.2)]⟩) zc6 (v2.f_l, v2.f_end, v2.f_e, v2.f_at, v2.f_deep, v2.f_in, []) (fun _ => ⟨_, _, _, _, rfl⟩) h (by kernel_rfl) (fun x1 o h => ?_) (fun r' h => ?_) (fun j1 h => ?_)
 ·unfold z2c at h
  obtain ⟨v3, k3, h⟩ := z0b h
  refine adv (ok X) 3 [.s (z1n v3) (z1o v3)] (pA (z1v (X := X) k3) pT) (by kernel_rfl) ?_
  rcases iteE h with ⟨k4, h⟩ | ⟨k4, h⟩
  ·obtain ⟨v4, k5, h⟩ := z0b h
   obtain ⟨v5, k6, h⟩ := z0b h
   obtain ⟨v6, k7, h⟩ := z0b h
   obtain rfl := retE h
   exact fin (ok X) 7 [.b true, .o [0, 1, 2, 3, 4, 5, 6, 7], .s (z17 v4) (z18 v4), .l (List.map z4e v5), .s (z0f v6) (z0g v6)] (pA k4 (pA (z1b (X := X) k5) (pA (apm (L := x1.2.2.2.2.2.2) (M := [v4.2]) zaw k6) (pA (z0i (X := X) k7) pT)))) (by kernel_rfl)
  ·obtain rfl := retE h
   exact fin (ok X) 2 [.b false] (pA k4 pT) (by kernel_rfl)
 ·cases h
 ·obtain ⟨v7, k8, h⟩ := z0b h
  obtain ⟨v8, k9, h⟩ := z0b h
  obtain rfl := retE h
  exact fin (ok X) 7 [.s (z1w v7) (z1x v7), .s (z0f v8) (z0g v8)] (pA (zbm (X := X) k8) (pA (z0i (X := X) k9) pT)) (by kernel_rfl)

theorem z8e {a0 : ByteArray} {r : (z1g × Int × Int)} (h : z5b a0 = some r) : Cv Tryz.prog (GX X) 9 [xS a0] (z5l r) := by
 refine Cs.toV (?_ : Cs Tryz.prog (GX X) 9 [xS a0] [] (z5l r) (zcr r)) (by kernel_rfl)
 refine fnT (cx := cx X) Tryz.f9 Tryz.call9 Tryz.func9 (by kernel_rfl) ?_
 unfold z5b at h
 obtain ⟨v1, k1, h⟩ := z0b h
 refine adv (ok X) 7 [.c (zcq v1)] (pA (zoc (X := X) k1) pT) (by kernel_rfl) ?_
 rcases iteE h with ⟨k2, h⟩ | ⟨k2, h⟩
 ·obtain rfl := retE h
  exact fin (ok X) 4 [.b true] (pA k2 pT) (by kernel_rfl)
 ·refine adv (ok X) 7 [.b false] (pA k2 pT) (by kernel_rfl) ?_
  refine lp (ok X) (z49) (fun (x1 : ((List z08) × Int × Int × Int × Int × Int × (List z27))) => ⟨76, 0, [(2, [xP 0 0]), (8, [xP 1 0]), (9, [xP 2 0])], [oB 26 [.emp, .emp, .emp], oB 71 (bs (z01 (z00.mk x1.1 x1.2.1 x1.2.2.1 x1.2.2.2.1 x1.2.2.2.2.1 x1.2.2.2.2.2.1))), oB 26 [.row 3, .emp, .emp], oR true 73 6 (List.map z1l x1.2.2.2.2.2.2)]⟩) (fun (j1 : ((List z08) × Int × Int × Int × Int × Int × (List z27))) => ⟨76, 0, [(2, [xP 0 0]), (8, [xP 1 0]), (9, [xP 2 0])], [oB 26 [.emp, .emp, .emp], oB 71 (bs (z01 (z00.mk j1.1 j1.2.1 j1.2.2.1 j1.2.2.2.1 j1.2.2.2.2.1 j1.2.2.2.2.2.1))), oB 26 [.row 3, .emp, .emp], oR true 73 6 (List.map z1l j1.2.2.2.2.2.2)]⟩) za1 (v1.1, (a0.size : Int), 0, 0, 0, 0, []) (fun _ => ⟨_, _, _, _, rfl⟩) h (by kernel_rfl) (fun x1 o h => ?_) (fun r' h => ?_) (fun j1 h => ?_)
  ·unfold z49 at h
   obtain ⟨v2, k3, h⟩ := z0b h
   refine adv (ok X) 3 [.s (z1n v2) (z1o v2)] (pA (z1v (X := X) k3) pT) (by kernel_rfl) ?_
   rcases iteE h with ⟨k4, h⟩ | ⟨k4, h⟩
   ·obtain ⟨v3, k5, h⟩ := z0b h
    obtain ⟨v4, k6, h⟩ := z0b h
    obtain rfl := retE h
    exact fin (ok X) 5 [.b true, .o [0, 1, 2, 3, 4, 5, 6, 7], .s (z5r v3) (z5s v3), .l (List.map z1l v4)] (pA k4 (pA (zae (X := X) k5) (pA (apm (L := x1.2.2.2.2.2.2) (M := [v3.2]) zbq k6) pT))) (by kernel_rfl)
   ·obtain rfl := retE h
    exact fin (ok X) 2 [.b false] (pA k4 pT) (by kernel_rfl)
  ·cases h
  ·refine adv (ok X) 1 [] pT (by kernel_rfl) ?_
   refine lp (ok X) (z4a) (fun (x2 : ((List z08) × Int × Int × Int × Int × Int × (List z2a))) => ⟨76, 0, [(2, [xP 0 0]), (8, [xP 1 0]), (9, [xP 2 0])], [oB 26 [.emp, .emp, .emp], oB 71 (bs (z01 (z00.mk x2.1 x2.2.1 x2.2.2.1 x2.2.2.2.1 x2.2.2.2.2.1 x2.2.2.2.2.2.1))), oB 26 [.row 3, .row 4, .emp], oR true 73 6 (List.map z1l j1.2.2.2.2.2.2), oR true 77 2 (List.map z24 x2.2.2.2.2.2.2)]⟩) (fun (j2 : ((List z08) × Int × Int × Int × Int × Int × (List z2a))) => ⟨76, 0, [(2, [xP 0 0]), (8, [xP 1 0]), (9, [xP 2 0])], [oB 26 [.emp, .emp, .emp], oB 71 (bs (z01 (z00.mk j2.1 j2.2.1 j2.2.2.1 j2.2.2.2.1 j2.2.2.2.2.1 j2.2.2.2.2.2.1))), oB 26 [.row 3, .row 4, .emp], oR true 73 6 (List.map z1l j1.2.2.2.2.2.2), oR true 77 2 (List.map z24 j2.2.2.2.2.2.2)]⟩) za1 (j1.1, j1.2.1, j1.2.2.1, j1.2.2.2.1, j1.2.2.2.2.1, j1.2.2.2.2.2.1, []) (fun _ => ⟨_, _, _, _, rfl⟩) h (by kernel_rfl) (fun x2 o h => ?_) (fun r' h => ?_) (fun j2 h => ?_)
   ·unfold z4a at h
    obtain ⟨v5, k7, h⟩ := z0b h
    refine adv (ok X) 3 [.s (z1n v5) (z1o v5)] (pA (z1v (X := X) k7) pT) (by kernel_rfl) ?_
    rcases iteE h with ⟨k8, h⟩ | ⟨k8, h⟩
    ·obtain ⟨v6, k9, h⟩ := z0b h
     obtain ⟨v7, k10, h⟩ := z0b h
     obtain rfl := retE h
     exact fin (ok X) 5 [.b true, .o [0, 1, 2, 3, 4, 5, 6, 7], .s (z6u v6) (z6v v6), .l (List.map z24 v7)] (pA k8 (pA (zc7 (X := X) k9) (pA (apm (L := x2.2.2.2.2.2.2) (M := [v6.2]) zbs k10) pT))) (by kernel_rfl)
    ·obtain rfl := retE h
     exact fin (ok X) 2 [.b false] (pA k8 pT) (by kernel_rfl)
   ·cases h
   ·refine adv (ok X) 1 [] pT (by kernel_rfl) ?_
    refine lp (ok X) (z3x) (fun (x3 : ((List z08) × Int × Int × Int × Int × Int × (List z2d))) => ⟨76, 0, [(2, [xP 0 0]), (8, [xP 1 0]), (9, [xP 2 0])], [oB 26 [.emp, .emp, .emp], oB 71 (bs (z01 (z00.mk x3.1 x3.2.1 x3.2.2.1 x3.2.2.2.1 x3.2.2.2.2.1 x3.2.2.2.2.2.1))), oB 26 [.row 3, .row 4, .row 5], oR true 73 6 (List.map z1l j1.2.2.2.2.2.2), oR true 77 2 (List.map z24 j2.2.2.2.2.2.2), oR true 81 3 (List.map z0j x3.2.2.2.2.2.2)]⟩) (fun (j3 : ((List z08) × Int × Int × Int × Int × Int × (List z2d))) => ⟨76, 0, [(2, [xP 0 0]), (8, [xP 1 0]), (9, [xP 2 0])], [oB 26 [.emp, .emp, .emp], oB 71 (bs (z01 (z00.mk j3.1 j3.2.1 j3.2.2.1 j3.2.2.2.1 j3.2.2.2.2.1 j3.2.2.2.2.2.1))), oB 26 [.row 3, .row 4, .row 5], oR true 73 6 (List.map z1l j1.2.2.2.2.2.2), oR true 77 2 (List.map z24 j2.2.2.2.2.2.2), oR true 81 3 (List.map z0j j3.2.2.2.2.2.2)]⟩) za1 (j2.1, j2.2.1, j2.2.2.1, j2.2.2.2.1, j2.2.2.2.2.1, j2.2.2.2.2.2.1, []) (fun _ => ⟨_, _, _, _, rfl⟩) h (by kernel_rfl) (fun x3 o h => ?_) (fun r' h => ?_) (fun j3 h => ?_)
    ·unfold z3x at h
     obtain ⟨v8, k11, h⟩ := z0b h
     refine adv (ok X) 3 [.s (z1n v8) (z1o v8)] (pA (z1v (X := X) k11) pT) (by kernel_rfl) ?_
     rcases iteE h with ⟨k12, h⟩ | ⟨k12, h⟩
     ·obtain ⟨v9, k13, h⟩ := z0b h
      obtain ⟨v10, k14, h⟩ := z0b h
      obtain rfl := retE h
      exact fin (ok X) 5 [.b true, .o [0, 1, 2, 3, 4, 5, 6, 7], .s (z6w v9) (z6x v9), .l (List.map z0j v10)] (pA k12 (pA (zce (X := X) k13) (pA (apm (L := x3.2.2.2.2.2.2) (M := [v9.2]) zbt k14) pT))) (by kernel_rfl)
     ·obtain rfl := retE h
      exact fin (ok X) 2 [.b false] (pA k12 pT) (by kernel_rfl)
    ·cases h
    ·refine adv (ok X) 3 [.i (j3.1.length : Int)] (pA (lm z1c j3.1) pT) (by kernel_rfl) ?_
     rcases iteE h with ⟨k15, h⟩ | ⟨k15, h⟩
     ·obtain ⟨v11, k16, h⟩ := z0b h
      refine adv (ok X) 5 [.b true, .s (z3g v11) (z3h v11)] (pA k15 (pA (z3u (X := X) k16) pT)) (by kernel_rfl) ?_
      rcases iteE h with ⟨k17, h⟩ | ⟨k17, h⟩
      ·obtain rfl := retE h
       exact fin (ok X) 4 [.b true, .o [0, 1, 2, 3, 4, 5, 6, 7, 8, 9, 10, 11]] (pA k17 pT) (by kernel_rfl)
      ·obtain rfl := retE h
       exact fin (ok X) 5 [.b false] (pA k17 pT) (by kernel_rfl)
     ·refine adv (ok X) 5 [.b false] (pA k15 pT) (by kernel_rfl) ?_
      rcases iteE h with ⟨k18, h⟩ | ⟨k18, h⟩
      ·obtain rfl := retE h
       exact fin (ok X) 4 [.b true, .o [0, 1, 2, 3, 4, 5, 6, 7, 8, 9, 10, 11]] (pA k18 pT) (by kernel_rfl)
      ·obtain rfl := retE h
       exact fin (ok X) 5 [.b false] (pA k18 pT) (by kernel_rfl)
end Go.Proofs.YtokjbpmjdcbogaaGreatDoor.Abs

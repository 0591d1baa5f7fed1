/- Gw: the functions are these. -/
import Derived.Test.YtokjbpmjdcbogaaDoorGwF
namespace Go.Proofs.YtokjbpmjdcbogaaDoor.Abs
open Go Go.RowKit
set_option linter.unusedVariables false
set_option maxRecDepth 100000
set_option maxHeartbeats 4000000
variable {X : EV}
theorem zka {a0 : ByteArray} {r : Int × Int} (h : zaw a0 = some r) : Cv Tryd.prog (GX X) 23 [xS a0] (zfp r) := zea h
theorem zir {a0 : ByteArray} {a1 : Int} {r : Int} (h : ze9 a0 a1 = some r) : Cv Tryd.prog (GX X) 31 [xS a0, .c (.pv (.int .u8 a1))] (ze8 r) := zgw h
theorem z7q {a0 : Int} {r : Bool} (h : z6d a0 = some r) : Cv Tryd.prog (GX X) 19 [.c (.pv (.int .u8 a0))] (z5x r) := by
 refine Cs.toV (?_ : Cs Tryd.prog (GX X) 19 [.c (.pv (.int .u8 a0))] [] (z5x r) (zd6 r)) (by kernel_rfl)
 refine fnT (cx := cx X) Tryd.f19 Tryd.call19 Tryd.func19 (by kernel_rfl) ?_
 unfold z6d at h
 rcases iteE h with ⟨k1, h⟩ | ⟨k1, h⟩
 ·obtain rfl := retE h
  exact fin (ok X) 5 (bT 3 []) (pR 3 k1 pT) (by kernel_rfl)
 ·obtain rfl := retE h
  exact fin (ok X) 5 (bF 3 []) (pR 3 k1 pT) (by kernel_rfl)

theorem zay {a0 : Int} {r : Bool} (h : z70 a0 = some r) : Cv Tryd.prog (GX X) 22 [.c (.pv (.int .u8 a0))] (z78 r) := by
 refine Cs.toV (?_ : Cs Tryd.prog (GX X) 22 [.c (.pv (.int .u8 a0))] [] (z78 r) (ze6 r)) (by kernel_rfl)
 refine fnT (cx := cx X) Tryd.f22 Tryd.call22 Tryd.func22 (by kernel_rfl) ?_
 unfold z70 at h
 rcases iteE h with ⟨k1, h⟩ | ⟨k1, h⟩
 ·obtain rfl := retE h
  exact fin (ok X) 5 (bT 3 []) (pR 3 k1 pT) (by kernel_rfl)
 ·obtain rfl := retE h
  exact fin (ok X) 5 (bF 3 []) (pR 3 k1 pT) (by kernel_rfl)

theorem zda {a0 : ByteArray} {r : Int} (h : z9u a0 = some r) : Cv Tryd.prog (GX X) 21 [xS a0] (z7p r) := by
 refine Cs.toV (?_ : Cs Tryd.prog (GX X) 21 [xS a0] [] (z7p r) (zd7 r)) (by kernel_rfl)
 refine fnT (cx := cx X) Tryd.f21 Tryd.call21 Tryd.func21 (by kernel_rfl) ?_
 unfold z9u at h
 refine adv (ok X) 5 [] pT (by kernel_rfl) ?_
 refine lp (ok X) (z5q a0) (fun (x1 : Int) => ⟨23, 0, [(0, [xS a0]), (3, [xI x1])], []⟩) (fun (j1 : Int) => ⟨23, 0, [(3, [xI j1])], []⟩) zip 0 (fun _ => ⟨_, _, _, _, rfl⟩) h (by kernel_rfl) (fun x1 o h => ?_) (fun r' h => ?_) (fun j1 h => ?_)
 ·unfold z5q at h
  refine adv (ok X) 2 [] pT (by kernel_rfl) ?_
  refine jn (ok X) 1 (fun (j2 : Bool) => ⟨23, 0, [(0, [xS a0]), (3, [xI x1]), (19, [xB j2])], []⟩) h (fun j2 h => ?_) (fun j2 h => ?_)
  ·rcases iteE h with ⟨k1, h⟩ | ⟨k1, h⟩
   ·obtain ⟨v1, k2, h⟩ := z0h h
    obtain ⟨v2, k3, h⟩ := z0h h
    rcases iteE h with ⟨k4, h⟩ | ⟨k4, h⟩
    ·obtain rfl := retE h
     exact fin (ok X) 1 (bT 3 (.i v1 :: .b true :: .c (z5x v2) :: bT 8 [])) (pR 3 k1 (pA k2 (pA k1 (pA (z7q (X := X) k3) (pA k1 (pR 4 k4 (pA k1 (pA k4 (pA k1 pT))))))))) (by kernel_rfl)
    ·obtain ⟨v3, k5, h⟩ := z0h h
     obtain ⟨v4, k6, h⟩ := z0h h
     obtain rfl := retE h
     exact fin (ok X) 1 (bT 3 (.i v1 :: .b true :: .c (z5x v2) :: .b true :: bF 3 [.i v3, .b false, .c (z78 v4), .b true, .b false, .b true])) (pR 3 k1 (pA k2 (pA k1 (pA (z7q (X := X) k3) (pA k1 (pR 3 k4 (pA k5 (pA k4 (pA (zay (X := X) k6) (pA k1 (pA k4 (pA k1 pT)))))))))))) (by kernel_rfl)
   ·obtain rfl := retE h
    exact fin (ok X) 1 (bF 7 []) (pR 7 k1 pT) (by kernel_rfl)
  ·rcases iteE h with ⟨k7, h⟩ | ⟨k7, h⟩
   ·obtain rfl := retE h
    exact fin (ok X) 5 [.b true] (pA k7 pT) (by kernel_rfl)
   ·obtain rfl := retE h
    exact fin (ok X) 2 [.b false] (pA k7 pT) (by kernel_rfl)
 ·cases h
 ·obtain rfl := retE h
  exact fin (ok X) 3 [] pT (by kernel_rfl)

theorem zba {a0 : ByteArray} {r : Bool} (h : z5y a0 = some r) : Cv Tryd.prog (GX X) 28 [xS a0] (z6x r) := by
 refine Cs.toV (?_ : Cs Tryd.prog (GX X) 28 [xS a0] [] (z6x r) (zb5 r)) (by kernel_rfl)
 refine fnT (cx := cx X) Tryd.f28 Tryd.call28 Tryd.func28 (by kernel_rfl) ?_
 unfold z5y at h
 rcases iteE h with ⟨k1, h⟩ | ⟨k1, h⟩
 ·obtain rfl := retE h
  exact fin (ok X) 15 [.b true, .b true] (pA k1 (pA k1 pT)) (by kernel_rfl)
 ·refine adv (ok X) 12 [.b false] (pA k1 pT) (by kernel_rfl) ?_
  rcases iteE h with ⟨k2, h⟩ | ⟨k2, h⟩
  ·obtain rfl := retE h
   exact fin (ok X) 6 [.b true, .b true] (pA k2 (pA k2 pT)) (by kernel_rfl)
  ·refine adv (ok X) 3 [.b false] (pA k2 pT) (by kernel_rfl) ?_
   rcases iteE h with ⟨k3, h⟩ | ⟨k3, h⟩
   ·obtain rfl := retE h
    exact fin (ok X) 6 [.b true, .b true] (pA k3 (pA k3 pT)) (by kernel_rfl)
   ·refine adv (ok X) 3 [.b false] (pA k3 pT) (by kernel_rfl) ?_
    rcases iteE h with ⟨k4, h⟩ | ⟨k4, h⟩
    ·obtain rfl := retE h
     exact fin (ok X) 6 [.b true, .b true] (pA k4 (pA k4 pT)) (by kernel_rfl)
    ·refine adv (ok X) 3 [.b false] (pA k4 pT) (by kernel_rfl) ?_
     rcases iteE h with ⟨k5, h⟩ | ⟨k5, h⟩
     ·obtain rfl := retE h
      exact fin (ok X) 6 [.b true, .b true] (pA k5 (pA k5 pT)) (by kernel_rfl)
     ·refine adv (ok X) 3 [.b false] (pA k5 pT) (by kernel_rfl) ?_
      rcases iteE h with ⟨k6, h⟩ | ⟨k6, h⟩
      ·obtain rfl := retE h
       exact fin (ok X) 6 [.b true, .b true] (pA k6 (pA k6 pT)) (by kernel_rfl)
      ·refine adv (ok X) 3 [.b false] (pA k6 pT) (by kernel_rfl) ?_
       rcases iteE h with ⟨k7, h⟩ | ⟨k7, h⟩
       ·obtain rfl := retE h
        exact fin (ok X) 6 [.b true, .b true] (pA k7 (pA k7 pT)) (by kernel_rfl)
       ·refine adv (ok X) 2 [.b false] (pA k7 pT) (by kernel_rfl) ?_
        rcases iteE h with ⟨k8, h⟩ | ⟨k8, h⟩
        ·obtain rfl := retE h
         exact fin (ok X) 4 [.b true] (pA k8 pT) (by kernel_rfl)
        ·refine adv (ok X) 4 [.b false] (pA k8 pT) (by kernel_rfl) ?_
         rcases iteE h with ⟨k9, h⟩ | ⟨k9, h⟩
         ·obtain rfl := retE h
          exact fin (ok X) 6 [.b true, .b true] (pA k9 (pA k9 pT)) (by kernel_rfl)
         ·refine adv (ok X) 3 [.b false] (pA k9 pT) (by kernel_rfl) ?_
          rcases iteE h with ⟨k10, h⟩ | ⟨k10, h⟩
          ·obtain rfl := retE h
           exact fin (ok X) 6 [.b true, .b true] (pA k10 (pA k10 pT)) (by kernel_rfl)
          ·refine adv (ok X) 3 [.b false] (pA k10 pT) (by kernel_rfl) ?_
           rcases iteE h with ⟨k11, h⟩ | ⟨k11, h⟩
           ·obtain rfl := retE h
            exact fin (ok X) 6 [.b true, .b true] (pA k11 (pA k11 pT)) (by kernel_rfl)
           ·refine adv (ok X) 3 [.b false] (pA k11 pT) (by kernel_rfl) ?_
            rcases iteE h with ⟨k12, h⟩ | ⟨k12, h⟩
            ·obtain rfl := retE h
             exact fin (ok X) 6 [.b true, .b true] (pA k12 (pA k12 pT)) (by kernel_rfl)
            ·refine adv (ok X) 3 [.b false] (pA k12 pT) (by kernel_rfl) ?_
             rcases iteE h with ⟨k13, h⟩ | ⟨k13, h⟩
             ·obtain rfl := retE h
              exact fin (ok X) 6 [.b true, .b true] (pA k13 (pA k13 pT)) (by kernel_rfl)
             ·refine adv (ok X) 3 [.b false] (pA k13 pT) (by kernel_rfl) ?_
              rcases iteE h with ⟨k14, h⟩ | ⟨k14, h⟩
              ·obtain rfl := retE h
               exact fin (ok X) 6 [.b true, .b true] (pA k14 (pA k14 pT)) (by kernel_rfl)
              ·refine adv (ok X) 3 [.b false] (pA k14 pT) (by kernel_rfl) ?_
               rcases iteE h with ⟨k15, h⟩ | ⟨k15, h⟩
               ·obtain rfl := retE h
                exact fin (ok X) 6 [.b true, .b true] (pA k15 (pA k15 pT)) (by kernel_rfl)
               ·refine adv (ok X) 2 [.b false] (pA k15 pT) (by kernel_rfl) ?_
                rcases iteE h with ⟨k16, h⟩ | ⟨k16, h⟩
                ·obtain rfl := retE h
                 exact fin (ok X) 4 [.b true] (pA k16 pT) (by kernel_rfl)
                ·obtain rfl := retE h
                 exact fin (ok X) 6 [.b false] (pA k16 pT) (by kernel_rfl)

theorem zeb {a0 : ByteArray} {r : (z07 × Int)} (h : z71 a0 = some r) : Cv Tryd.prog (GX X) 20 [xS a0] (z8p r) := by
 refine Cs.toV (?_ : Cs Tryd.prog (GX X) 20 [xS a0] [] (z8p r) (ze7 r)) (by kernel_rfl)
 refine fnT (cx := cx X) Tryd.f20 Tryd.call20 Tryd.func20 (by kernel_rfl) ?_
 unfold z71 at h
 rcases iteE h with ⟨k1, h⟩ | ⟨k1, h⟩
 ·obtain rfl := retE h
  exact fin (ok X) 10 [.b true] (pA k1 pT) (by kernel_rfl)
 ·obtain ⟨v1, k2, h⟩ := z0h h
  refine adv (ok X) 9 [.b false, .c (z6x v1)] (pA k1 (pA (zba (X := X) k2) pT)) (by kernel_rfl) ?_
  rcases iteE h with ⟨k3, h⟩ | ⟨k3, h⟩
  ·obtain rfl := retE h
   exact fin (ok X) 4 [.b true] (pA k3 pT) (by kernel_rfl)
  ·obtain rfl := retE h
   exact fin (ok X) 6 [.b false] (pA k3 pT) (by kernel_rfl)

theorem zgx {a0 : ByteArray} {r : Int} (h : z9e a0 = some r) : Cv Tryd.prog (GX X) 24 [xS a0] (z9v r) := by
 refine Cs.toV (?_ : Cs Tryd.prog (GX X) 24 [xS a0] [] (z9v r) (zgu r)) (by kernel_rfl)
 refine fnT (cx := cx X) Tryd.f24 Tryd.call24 Tryd.func24 (by kernel_rfl) ?_
 unfold z9e at h
 refine adv (ok X) 4 [] pT (by kernel_rfl) ?_
 refine jn (ok X) 1 (fun (j1 : Bool) => ⟨21, 0, [(0, [xS a0]), (16, [xB j1])], []⟩) h (fun j1 h => ?_) (fun j1 h => ?_)
 ·rcases iteE h with ⟨k1, h⟩ | ⟨k1, h⟩
  ·obtain ⟨v1, k2, h⟩ := z0h h
   rcases iteE h with ⟨k3, h⟩ | ⟨k3, h⟩
   ·obtain ⟨v2, k4, h⟩ := z0h h
    obtain ⟨v3, k5, h⟩ := z0h h
    obtain rfl := retE h
    exact fin (ok X) 1 (.b true :: .b true :: .i v1 :: bT 4 [.i v2, .b true, .c (ze8 v3), .b true, .b true]) (pA k1 (pA k1 (pA k2 (pA k1 (pA k1 (pA k3 (pA k3 (pA k4 (pA k3 (pA (zir (X := X) k5) (pA k3 (pA k3 pT)))))))))))) (by kernel_rfl)
   ·obtain rfl := retE h
    exact fin (ok X) 1 (.b true :: .b true :: .i v1 :: .b true :: .b true :: bF 5 []) (pA k1 (pA k1 (pA k2 (pA k1 (pA k1 (pR 5 k3 pT)))))) (by kernel_rfl)
  ·obtain rfl := retE h
   exact fin (ok X) 1 (bF 9 []) (pR 4 k1 (pR 5 ff pT)) (by kernel_rfl)
 ·rcases iteE h with ⟨k6, h⟩ | ⟨k6, h⟩
  ·obtain rfl := retE h
   exact fin (ok X) 4 [.b true] (pA k6 pT) (by kernel_rfl)
  ·obtain ⟨v4, k7, h⟩ := z0h h
   obtain ⟨v5, k8, h⟩ := z0h h
   refine adv (ok X) 5 [.b false, .i v4, .c (ze8 v5)] (pA k6 (pA k7 (pA (zir (X := X) k8) pT))) (by kernel_rfl) ?_
   rcases iteE h with ⟨k9, h⟩ | ⟨k9, h⟩
   ·obtain rfl := retE h
    exact fin (ok X) 4 [.b true] (pA k9 pT) (by kernel_rfl)
   ·obtain rfl := retE h
    exact fin (ok X) 5 [.b false] (pA k9 pT) (by kernel_rfl)

theorem zgy {a0 : ByteArray} {r : (z07 × Int)} (h : z79 a0 = some r) : Cv Tryd.prog (GX X) 12 [xS a0] (z9w r) := by
 refine Cs.toV (?_ : Cs Tryd.prog (GX X) 12 [xS a0] [] (z9w r) (zgv r)) (by kernel_rfl)
 refine fnT (cx := cx X) Tryd.f12 Tryd.call12 Tryd.func12 (by kernel_rfl) ?_
 unfold z79 at h
 obtain ⟨v1, k1, h⟩ := z0h h
 obtain ⟨v2, k2, h⟩ := z0h h
 refine adv (ok X) 6 [.i v1, .c (z5x v2)] (pA k1 (pA (z7q (X := X) k2) pT)) (by kernel_rfl) ?_
 rcases iteE h with ⟨k3, h⟩ | ⟨k3, h⟩
 ·obtain ⟨v3, k4, h⟩ := z0h h
  obtain ⟨v4, k5, h⟩ := z0h h
  obtain ⟨v5, k6, h⟩ := z0h h
  obtain rfl := retE h
  exact fin (ok X) 4 [.b true, .c (z7p v3), .x [xS v4], .c (z8p v5)] (pA k3 (pA (zda (X := X) k4) (pA k5 (pA (zeb (X := X) k6) pT)))) (by kernel_rfl)
 ·obtain ⟨v6, k7, h⟩ := z0h h
  obtain ⟨v7, k8, h⟩ := z0h h
  refine adv (ok X) 3 [.b false, .i v6, .c (z78 v7)] (pA k3 (pA k7 (pA (zay (X := X) k8) pT))) (by kernel_rfl) ?_
  rcases iteE h with ⟨k9, h⟩ | ⟨k9, h⟩
  ·obtain ⟨v8, k10, h⟩ := z0h h
   obtain ⟨v9, k11, h⟩ := z0h h
   obtain ⟨v10, k12, h⟩ := z0h h
   obtain rfl := retE h
   exact fin (ok X) 8 [.b true, .c (z7p v8), .x [xS v9], .c (zfp v10)] (pA k9 (pA (zda (X := X) k10) (pA k11 (pA (zka (X := X) k12) pT)))) (by kernel_rfl)
  ·obtain ⟨v11, k13, h⟩ := z0h h
   refine adv (ok X) 8 [.b false, .c (z9v v11)] (pA k9 (pA (zgx (X := X) k13) pT)) (by kernel_rfl) ?_
   rcases iteE h with ⟨k14, h⟩ | ⟨k14, h⟩
   ·obtain rfl := retE h
    exact fin (ok X) 4 [.b true] (pA k14 pT) (by kernel_rfl)
   ·obtain ⟨v12, k15, h⟩ := z0h h
    obtain rfl := retE h
    exact fin (ok X) 5 [.b false, .x [xS v12]] (pA k14 (pA k15 pT)) (by kernel_rfl)

theorem zis {a0 : ByteArray} {r : ((List z07) × Int × Int)} (h : z8q a0 = some r) : Cv Tryd.prog (GX X) 6 [xS a0] (z9f r) := by
 refine Cs.toV (?_ : Cs Tryd.prog (GX X) 6 [xS a0] [] (z9f r) (zd8 r)) (by kernel_rfl)
 refine fnT (cx := cx X) Tryd.f6 Tryd.call6 Tryd.func6 (by kernel_rfl) ?_
 unfold z8q at h
 refine adv (ok X) 7 [] pT (by kernel_rfl) ?_
 refine lp (ok X) (z5r a0) (fun (x1 : (Int × (List z07))) => ⟨53, 0, [(0, [xS a0]), (5, [xR 0]), (6, [xI x1.1])], [oR true 62 4 (List.map z14 x1.2)]⟩) (fun (j1 : (List z07)) => ⟨53, 0, [(0, [xS a0]), (5, [xR 0])], [oR true 62 4 (List.map z14 j1)]⟩) ziq (0, []) (fun _ => ⟨_, _, _, _, rfl⟩) h (by kernel_rfl) (fun x1 o h => ?_) (fun r' h => ?_) (fun j1 h => ?_)
 ·unfold z5r at h
  rcases iteE h with ⟨k1, h⟩ | ⟨k1, h⟩
  ·refine adv (ok X) 8 [.b true] (pA k1 pT) (by kernel_rfl) ?_
   refine jn (ok X) 1 (fun (j2 : Bool) => ⟨53, 0, [(0, [xS a0]), (5, [xR 0]), (6, [xI x1.1]), (22, [xB j2])], [oR true 62 4 (List.map z14 x1.2)]⟩) h (fun j2 h => ?_) (fun j2 h => ?_)
   ·obtain ⟨v1, k2, h⟩ := z0h h
    rcases iteE h with ⟨k3, h⟩ | ⟨k3, h⟩
    ·obtain rfl := retE h
     exact fin (ok X) 1 (.i v1 :: bT 5 []) (pA k2 (pR 5 k3 pT)) (by kernel_rfl)
    ·obtain ⟨v2, k4, h⟩ := z0h h
     obtain rfl := retE h
     exact fin (ok X) 1 (.i v1 :: bF 3 [.i v2, .b false, .b false]) (pA k2 (pR 3 k3 (pA k4 (pA k3 (pA k3 pT))))) (by kernel_rfl)
   ·rcases iteE h with ⟨k5, h⟩ | ⟨k5, h⟩
    ·obtain rfl := retE h
     exact fin (ok X) 4 [.b true] (pA k5 pT) (by kernel_rfl)
    ·obtain ⟨v3, k6, h⟩ := z0h h
     obtain ⟨v4, k7, h⟩ := z0h h
     refine adv (ok X) 7 [.b false, .x [xS v3], .c (z9w v4)] (pA k5 (pA k6 (pA (zgy (X := X) k7) pT))) (by kernel_rfl) ?_
     rcases iteE h with ⟨k8, h⟩ | ⟨k8, h⟩
     ·obtain rfl := retE h
      exact fin (ok X) 4 [.b true] (pA k8 pT) (by kernel_rfl)
     ·obtain ⟨v5, k9, h⟩ := z0h h
      obtain rfl := retE h
      exact fin (ok X) 8 [.b false, .l (List.map z14 v5)] (pA k8 (pA (apm (L := x1.2) (M := [(z07.mk v4.1.Kind v4.1.Text v4.1.Num x1.1)]) z6l k9) pT)) (by kernel_rfl)
  ·obtain rfl := retE h
   exact fin (ok X) 5 [.b false] (pA k1 pT) (by kernel_rfl)
 ·obtain rfl := retE h
  kernel_rfl
 ·refine adv (ok X) 3 [.i (j1.length : Int)] (pA (lm z14 j1) pT) (by kernel_rfl) ?_
  rcases iteE h with ⟨k10, h⟩ | ⟨k10, h⟩
  ·obtain rfl := retE h
   exact fin (ok X) 4 [.b true] (pA k10 pT) (by kernel_rfl)
  ·obtain rfl := retE h
   exact fin (ok X) 5 [.b false] (pA k10 pT) (by kernel_rfl)

theorem z2u {a0 : z00} {a1 : ByteArray} {r : Bool} (h : z1q a0 a1 = some r) : Cs Tryd.prog (GX X) 13 [xP 0 0, xS a1] [oB 39 (bs (z01 a0))] (z2l r) (z2m a0 r) := by
 refine fnT (cx := cx X) Tryd.f13 Tryd.call13 Tryd.func13 (by kernel_rfl) ?_
 unfold z1q at h
 rcases iteE h with ⟨k1, h⟩ | ⟨k1, h⟩
 ·rcases iteE h with ⟨k2, h⟩ | ⟨k2, h⟩
  ·obtain ⟨v1, k3, h⟩ := z0h h
   rcases iteE h with ⟨k4, h⟩ | ⟨k4, h⟩
   ·obtain ⟨v2, k5, h⟩ := z0h h
    obtain rfl := retE h
    exact fin (ok X) 5 (bT 5 (.i (a0.f_l.length : Int) :: bT 7 (.e (z14 v1) :: bT 9 (.e (z14 v2) :: bT 5 [])))) (pR 5 k1 (pA (lm z14 a0.f_l) (pA k1 (pA k1 (pR 5 k2 (pA (ixm z14 k3) (pR 4 k2 (pR 5 k4 (pA (ixm z14 k5) (pR 5 k4 pT)))))))))) (by kernel_rfl)
   ·obtain rfl := retE h
    exact fin (ok X) 5 (bT 5 (.i (a0.f_l.length : Int) :: bT 7 (.e (z14 v1) :: bT 4 (bF 10 [])))) (pR 5 k1 (pA (lm z14 a0.f_l) (pA k1 (pA k1 (pR 5 k2 (pA (ixm z14 k3) (pR 4 k2 (pR 10 k4 pT)))))))) (by kernel_rfl)
  ·obtain rfl := retE h
   exact fin (ok X) 5 (bT 5 (.i (a0.f_l.length : Int) :: .b true :: .b true :: bF 19 [])) (pR 5 k1 (pA (lm z14 a0.f_l) (pA k1 (pA k1 (pR 9 k2 (pR 10 ff pT)))))) (by kernel_rfl)
 ·obtain rfl := retE h
  exact fin (ok X) 5 (bF 26 []) (pR 7 k1 (pR 19 ff pT)) (by kernel_rfl)

theorem z1h {a0 : z00} {a1 : ByteArray} {r : (z00 × Bool)} (h : z09 a0 a1 = some r) : Cs Tryd.prog (GX X) 7 [xP 0 0, xS a1] [oB 39 (bs (z01 a0))] (z1a r) (z1b r) := by
 refine fnT (cx := cx X) Tryd.f7 Tryd.call7 Tryd.func7 (by kernel_rfl) ?_
 unfold z09 at h
 obtain ⟨v1, k1, h⟩ := z0h h
 refine adv (ok X) 5 [.s (z2l v1) (z2m a0 v1)] (pA (z2u (X := X) k1) pT) (by kernel_rfl) ?_
 rcases iteE h with ⟨k2, h⟩ | ⟨k2, h⟩
 ·obtain rfl := retE h
  exact fin (ok X) 4 [.b true] (pA k2 pT) (by kernel_rfl)
 ·obtain ⟨v2, k3, h⟩ := z0h h
  obtain rfl := retE h
  exact fin (ok X) 7 [.b false, .l (List.map z14 v2)] (pA k2 (pA (lsm0 z14 k3) (pA (lnm z6l a0.f_l) pT))) (by kernel_rfl)

theorem z5u {a0 : z00} {a1 : Int} {r : Bool} (h : z32 a0 a1 = some r) : Cs Tryd.prog (GX X) 32 [xP 0 0, xI a1] [oB 39 (bs (z01 a0))] (z4t r) (z4u a0 r) := by
 refine fnT (cx := cx X) Tryd.f32 Tryd.call32 Tryd.func32 (by kernel_rfl) ?_
 unfold z32 at h
 rcases iteE h with ⟨k1, h⟩ | ⟨k1, h⟩
 ·rcases iteE h with ⟨k2, h⟩ | ⟨k2, h⟩
  ·obtain ⟨v1, k3, h⟩ := z0h h
   obtain rfl := retE h
   exact fin (ok X) 5 (bT 5 (.i (a0.f_l.length : Int) :: bT 7 (.e (z14 v1) :: bT 5 []))) (pR 5 k1 (pA (lm z14 a0.f_l) (pA k1 (pA k1 (pR 5 k2 (pA (ixm z14 k3) (pR 5 k2 pT))))))) (by kernel_rfl)
  ·obtain rfl := retE h
   exact fin (ok X) 5 (bT 5 (.i (a0.f_l.length : Int) :: .b true :: .b true :: bF 10 [])) (pR 5 k1 (pA (lm z14 a0.f_l) (pA k1 (pA k1 (pR 10 k2 pT))))) (by kernel_rfl)
 ·obtain rfl := retE h
  exact fin (ok X) 5 (bF 17 []) (pR 7 k1 (pR 10 ff pT)) (by kernel_rfl)

theorem z2v {a0 : z00} {a1 : Int} {r : z00} (h : z18 a0 a1 = some r) : Cs Tryd.prog (GX X) 11 [xP 0 0, xI a1] [oB 39 (bs (z01 a0))] (z2n r) (z2o r) := by
 refine fnT (cx := cx X) Tryd.f11 Tryd.call11 Tryd.func11 (by kernel_rfl) ?_
 unfold z18 at h
 rcases iteE h with ⟨k1, h⟩ | ⟨k1, h⟩
 ·obtain rfl := retE h
  exact fin (ok X) 5 [.b true] (pA k1 pT) (by kernel_rfl)
 ·refine adv (ok X) 9 [.b false, .i (a0.f_l.length : Int)] (pA k1 (pA (lm z14 a0.f_l) pT)) (by kernel_rfl) ?_
  rcases iteE h with ⟨k2, h⟩ | ⟨k2, h⟩
  ·obtain ⟨v1, k3, h⟩ := z0h h
   obtain rfl := retE h
   exact fin (ok X) 2 [.b true, .e (z14 v1)] (pA k2 (pA (ixm z14 k3) pT)) (by kernel_rfl)
  ·obtain rfl := retE h
   exact fin (ok X) 2 [.b false] (pA k2 pT) (by kernel_rfl)

theorem z6m {a0 : z00} {a1 : Int} {r : (z00 × z07)} (h : z2w a0 a1 = some r) : Cs Tryd.prog (GX X) 25 [xP 0 0, xI a1] [oB 39 (bs (z01 a0))] (z5b r) (z5c r) := by
 refine fnT (cx := cx X) Tryd.f25 Tryd.call25 Tryd.func25 (by kernel_rfl) ?_
 unfold z2w at h
 obtain ⟨v1, k1, h⟩ := z0h h
 refine adv (ok X) 5 [.s (z4t v1) (z4u a0 v1)] (pA (z5u (X := X) k1) pT) (by kernel_rfl) ?_
 rcases iteE h with ⟨k2, h⟩ | ⟨k2, h⟩
 ·obtain ⟨v2, k3, h⟩ := z0h h
  obtain rfl := retE h
  exact fin (ok X) 6 [.b true, .s (z2n v2) (z2o v2)] (pA k2 (pA (z2v (X := X) k3) pT)) (by kernel_rfl)
 ·obtain ⟨v3, k4, h⟩ := z0h h
  obtain ⟨v4, k5, h⟩ := z0h h
  obtain rfl := retE h
  exact fin (ok X) 9 [.b false, .e (z14 v3), .l (List.map z14 v4)] (pA k2 (pA (ixm z14 k4) (pA (lsm0 z14 k5) (pA (lnm z6l a0.f_l) pT)))) (by kernel_rfl)

theorem z13 {a0 : z00} {r : (z00 × ByteArray)} (h : z08 a0 = some r) : Cs Tryd.prog (GX X) 14 [xP 0 0] [oB 39 (bs (z01 a0))] (z0y r) (z0z r) := by
 refine fnT (cx := cx X) Tryd.f14 Tryd.call14 Tryd.func14 (by kernel_rfl) ?_
 unfold z08 at h
 obtain ⟨v1, k1, h⟩ := z0h h
 obtain rfl := retE h
 exact fin (ok X) 5 [.s (z5b v1) (z5c v1)] (pA (z6m (X := X) k1) pT) (by kernel_rfl)

theorem z3v {a0 : (List ByteArray)} {a1010 : z00} {r : (z00 × Int)} (h : z17 a0 a1010 = some r) : Cs Tryd.prog (GX X) 26 [xL (List.map z4k a0), .fn (.func 7) [.box 0 0] []] [oB 39 (bs (z01 a1010))] (z1y r) (z1z r) := by
 refine fnT (cx := cx X) Tryd.f26 Tryd.call26 Tryd.func26 (by kernel_rfl) ?_
 unfold z17 at h
 refine adv (ok X) 5 [.i (a0.length : Int)] (pA (lm z4k a0) pT) (by kernel_rfl) ?_
 refine lp (ok X) (z0c a0) (fun (x1 : (Int × (List z07) × Int × Int × Int × Int × Int)) => ⟨19, 1, [(0, [xL (List.map z4k a0)]), (1, [.fn (.func 7) [.box 0 0] []]), (7, [xI (a0.length : Int)]), (8, [xI x1.1])], [oB 39 (bs (z01 (z00.mk x1.2.1 x1.2.2.1 x1.2.2.2.1 x1.2.2.2.2.1 x1.2.2.2.2.2.1 x1.2.2.2.2.2.2)))]⟩) (fun (j1 : ((List z07) × Int × Int × Int × Int × Int)) => ⟨19, 1, [], [oB 39 (bs (z01 (z00.mk j1.1 j1.2.1 j1.2.2.1 j1.2.2.2.1 j1.2.2.2.2.1 j1.2.2.2.2.2)))]⟩) z3u (0, a1010.f_l, a1010.f_end, a1010.f_e, a1010.f_at, a1010.f_deep, a1010.f_in) (fun _ => ⟨_, _, _, _, rfl⟩) h (by kernel_rfl) (fun x1 o h => ?_) (fun r' h => ?_) (fun j1 h => ?_)
 ·unfold z0c at h
  rcases iteE h with ⟨k1, h⟩ | ⟨k1, h⟩
  ·obtain ⟨v1, k2, h⟩ := z0h h
   obtain ⟨v2, k3, h⟩ := z0h h
   refine adv (ok X) 11 [.b true, .e [.str v1], .s (z1a v2) (z1b v2)] (pA k1 (pA (ixm z4k k2) (pA (z1h (X := X) k3) pT))) (by kernel_rfl) ?_
   rcases iteE h with ⟨k4, h⟩ | ⟨k4, h⟩
   ·obtain rfl := retE h
    exact fin (ok X) 4 [.b true] (pA k4 pT) (by kernel_rfl)
   ·obtain rfl := retE h
    exact fin (ok X) 4 [.b false] (pA k4 pT) (by kernel_rfl)
  ·obtain rfl := retE h
   exact fin (ok X) 5 [.b false] (pA k1 pT) (by kernel_rfl)
 ·obtain rfl := retE h
  kernel_rfl
 ·obtain rfl := retE h
  exact fin (ok X) 3 [] pT (by kernel_rfl)

theorem z48 {a0 : z00} {a1 : (List ByteArray)} {r : (z00 × Int)} (h : z0w a0 a1 = some r) : Cs Tryd.prog (GX X) 15 [xP 0 0, xL (List.map z4k a1)] [oB 39 (bs (z01 a0))] (z3n r) (z3o r) := by
 refine fnT (cx := cx X) Tryd.f15 Tryd.call15 Tryd.func15 (by kernel_rfl) ?_
 unfold z0w at h
 obtain ⟨v1, k1, h⟩ := z0h h
 obtain rfl := retE h
 exact fin (ok X) 5 [.s (z1y v1) (z1z v1)] (pA (z3v (X := X) k1) pT) (by kernel_rfl)

theorem z42 {a0 : z00} {r : (z00 × Int)} (h : z12 a0 = some r) : Cs Tryd.prog (GX X) 16 [xP 0 0] [oB 39 (bs (z01 a0))] (z3f r) (z3g r) := by
 refine fnT (cx := cx X) Tryd.f16 Tryd.call16 Tryd.func16 (by kernel_rfl) ?_
 unfold z12 at h
 obtain ⟨v1, k1, h⟩ := z0h h
 obtain rfl := retE h
 exact fin (ok X) 5 [.s (z5b v1) (z5c v1)] (pA (z6m (X := X) k1) pT) (by kernel_rfl)

theorem z0g {a0 : z00} {a1 : ByteArray} {r : z00} (h : z02 a0 a1 = some r) : Cs Tryd.prog (GX X) 17 [xP 0 0, xS a1] [oB 39 (bs (z01 a0))] (z0d r) (z0e r) := by
 refine fnT (cx := cx X) Tryd.f17 Tryd.call17 Tryd.func17 (by kernel_rfl) ?_
 unfold z02 at h
 obtain ⟨v1, k1, h⟩ := z0h h
 refine adv (ok X) 2 [.s (z1a v1) (z1b v1)] (pA (z1h (X := X) k1) pT) (by kernel_rfl) ?_
 rcases iteE h with ⟨k2, h⟩ | ⟨k2, h⟩
 ·obtain ⟨v2, k3, h⟩ := z0h h
  obtain rfl := retE h
  exact fin (ok X) 2 [.b true, .s (z2n v2) (z2o v2)] (pA k2 (pA (z2v (X := X) k3) pT)) (by kernel_rfl)
 ·obtain rfl := retE h
  exact fin (ok X) 2 [.b false] (pA k2 pT) (by kernel_rfl)

theorem z7h {a0 : z00} {r : (z00 × z2y)} (h : z36 a0 = some r) : Cs Tryd.prog (GX X) 8 [xP 0 0] [oB 39 (bs (z01 a0))] (z4h r) (z4i r) := by
 refine fnT (cx := cx X) Tryd.f8 Tryd.call8 Tryd.func8 (by kernel_rfl) ?_
 unfold z36 at h
 obtain ⟨v1, k1, h⟩ := z0h h
 obtain ⟨v2, k2, h⟩ := z0h h
 refine adv (ok X) 9 [.s (z0y v1) (z0z v1), .s (z3n v2) (z3o v2)] (pA (z13 (X := X) k1) (pA (z48 (X := X) k2) pT)) (by kernel_rfl) ?_
 rcases iteE h with ⟨k3, h⟩ | ⟨k3, h⟩
 ·obtain ⟨v3, k4, h⟩ := z0h h
  obtain rfl := retE h
  exact fin (ok X) 6 [.b true, .s (z2n v3) (z2o v3)] (pA k3 (pA (z2v (X := X) k4) pT)) (by kernel_rfl)
 ·obtain ⟨v4, k5, h⟩ := z0h h
  obtain ⟨v5, k6, h⟩ := z0h h
  obtain ⟨v6, k7, h⟩ := z0h h
  obtain ⟨v7, k8, h⟩ := z0h h
  obtain ⟨v8, k9, h⟩ := z0h h
  obtain ⟨v9, k10, h⟩ := z0h h
  obtain ⟨v10, k11, h⟩ := z0h h
  obtain ⟨v11, k12, h⟩ := z0h h
  refine adv (ok X) 17 [.b false, .s (z3f v4) (z3g v4), .s (z0d v5) (z0e v5), .s (z0y v6) (z0z v6), .s (z0d v7) (z0e v7), .s (z0y v8) (z0z v8), .s (z0d v9) (z0e v9), .o [0, 1, 2, 3, 4, 5, 6, 7], .s (z0y v10) (z0z v10), .l (List.map z4k v11)] (pA k3 (pA (z42 (X := X) k5) (pA (z0g (X := X) k6) (pA (z13 (X := X) k7) (pA (z0g (X := X) k8) (pA (z13 (X := X) k9) (pA (z0g (X := X) k10) (pA (z13 (X := X) k11) (pA (apm (L := []) (M := [v10.2]) zax k12) pT))))))))) (by kernel_rfl) ?_
  refine lp (ok X) (z15) (fun (x1 : ((List z07) × Int × Int × Int × Int × Int × (List ByteArray))) => ⟨53, 1, [(0, [xP 0 0]), (2, [xP 1 0]), (3, [xP 2 0])], [oB 39 (bs (z01 (z00.mk x1.1 x1.2.1 x1.2.2.1 x1.2.2.2.1 x1.2.2.2.2.1 x1.2.2.2.2.2.1))), oB 42 [.pv (.str (ByteArray.mk #[])), .pv (.int .i64 0), .pv (.int .i64 0), .pv (.str (ByteArray.mk #[])), .pv (.str (ByteArray.mk #[])), .emp], oB 42 [.pv (.str v1.2), .pv (.int .i64 v2.2), .pv (.int .i64 v4.2), .pv (.str v6.2), .pv (.str v8.2), .row 3], oR true 9 1 (List.map z4k x1.2.2.2.2.2.2)]⟩) (fun (j1 : ((List z07) × Int × Int × Int × Int × Int × (List ByteArray))) => ⟨53, 1, [(0, [xP 0 0]), (2, [xP 1 0]), (3, [xP 2 0])], [oB 39 (bs (z01 (z00.mk j1.1 j1.2.1 j1.2.2.1 j1.2.2.2.1 j1.2.2.2.2.1 j1.2.2.2.2.2.1))), oB 42 [.pv (.str (ByteArray.mk #[])), .pv (.int .i64 0), .pv (.int .i64 0), .pv (.str (ByteArray.mk #[])), .pv (.str (ByteArray.mk #[])), .emp], oB 42 [.pv (.str v1.2), .pv (.int .i64 v2.2), .pv (.int .i64 v4.2), .pv (.str v6.2), .pv (.str v8.2), .row 3], oR true 9 1 (List.map z4k j1.2.2.2.2.2.2)]⟩) z7g (v10.1.f_l, v10.1.f_end, v10.1.f_e, v10.1.f_at, v10.1.f_deep, v10.1.f_in, v11) (fun _ => ⟨_, _, _, _, rfl⟩) h (by kernel_rfl) (fun x1 o h => ?_) (fun r' h => ?_) (fun j1 h => ?_)
  ·unfold z15 at h
   obtain ⟨v12, k13, h⟩ := z0h h
   refine adv (ok X) 3 [.s (z1a v12) (z1b v12)] (pA (z1h (X := X) k13) pT) (by kernel_rfl) ?_
   rcases iteE h with ⟨k14, h⟩ | ⟨k14, h⟩
   ·obtain ⟨v13, k15, h⟩ := z0h h
    obtain ⟨v14, k16, h⟩ := z0h h
    obtain rfl := retE h
    exact fin (ok X) 5 [.b true, .o [0, 1, 2, 3, 4, 5, 6, 7], .s (z0y v13) (z0z v13), .l (List.map z4k v14)] (pA k14 (pA (z13 (X := X) k15) (pA (apm (L := x1.2.2.2.2.2.2) (M := [v13.2]) zax k16) pT))) (by kernel_rfl)
   ·obtain rfl := retE h
    exact fin (ok X) 2 [.b false] (pA k14 pT) (by kernel_rfl)
  ·cases h
  ·obtain ⟨v15, k17, h⟩ := z0h h
   obtain ⟨v16, k18, h⟩ := z0h h
   obtain rfl := retE h
   exact fin (ok X) 7 [.s (z0d v15) (z0e v15), .s (z0d v16) (z0e v16)] (pA (z0g (X := X) k17) (pA (z0g (X := X) k18) pT)) (by kernel_rfl)

theorem z8u {a0 : z00} {r : (z00 × z3h)} (h : z3r a0 = some r) : Cs Tryd.prog (GX X) 9 [xP 0 0] [oB 39 (bs (z01 a0))] (z5d r) (z5e r) := by
 refine fnT (cx := cx X) Tryd.f9 Tryd.call9 Tryd.func9 (by kernel_rfl) ?_
 unfold z3r at h
 obtain ⟨v1, k1, h⟩ := z0h h
 obtain ⟨v2, k2, h⟩ := z0h h
 refine adv (ok X) 7 [.s (z0y v1) (z0z v1), .s (z0d v2) (z0e v2)] (pA (z13 (X := X) k1) (pA (z0g (X := X) k2) pT)) (by kernel_rfl) ?_
 refine lp (ok X) (z1u) (fun (x1 : ((List z07) × Int × Int × Int × Int × Int × (List z47))) => ⟨38, 1, [(0, [xP 0 0]), (2, [xP 1 0]), (3, [xP 2 0])], [oB 39 (bs (z01 (z00.mk x1.1 x1.2.1 x1.2.2.1 x1.2.2.2.1 x1.2.2.2.2.1 x1.2.2.2.2.2.1))), oB 46 [.pv (.str (ByteArray.mk #[])), .emp], oB 46 [.pv (.str v1.2), .row 3], oR true 70 3 (List.map z6c x1.2.2.2.2.2.2)]⟩) (fun (j1 : ((List z07) × Int × Int × Int × Int × Int × (List z47))) => ⟨38, 1, [(0, [xP 0 0]), (2, [xP 1 0]), (3, [xP 2 0])], [oB 39 (bs (z01 (z00.mk j1.1 j1.2.1 j1.2.2.1 j1.2.2.2.1 j1.2.2.2.2.1 j1.2.2.2.2.2.1))), oB 46 [.pv (.str (ByteArray.mk #[])), .emp], oB 46 [.pv (.str v1.2), .row 3], oR true 70 3 (List.map z6c j1.2.2.2.2.2.2)]⟩) z8r (v2.f_l, v2.f_end, v2.f_e, v2.f_at, v2.f_deep, v2.f_in, []) (fun _ => ⟨_, _, _, _, rfl⟩) h (by kernel_rfl) (fun x1 o h => ?_) (fun r' h => ?_) (fun j1 h => ?_)
 ·unfold z1u at h
  refine adv (ok X) 2 [] pT (by kernel_rfl) ?_
  refine jn (ok X) 1 (fun (j2 : Bool) => ⟨38, 1, [(0, [xP 0 0]), (2, [xP 1 0]), (3, [xP 2 0]), (19, [xB j2])], [oB 39 (bs (z01 (z00.mk x1.1 x1.2.1 x1.2.2.1 x1.2.2.2.1 x1.2.2.2.2.1 x1.2.2.2.2.2.1))), oB 46 [.pv (.str (ByteArray.mk #[])), .emp], oB 46 [.pv (.str v1.2), .row 3], oR true 70 3 (List.map z6c x1.2.2.2.2.2.2)]⟩) h (fun j2 h => ?_) (fun j2 h => ?_)
  ·rcases iteE h with ⟨k3, h⟩ | ⟨k3, h⟩
   ·obtain ⟨v3, k4, h⟩ := z0h h
    obtain rfl := retE h
    exact fin (ok X) 1 [.b true, .b true, .s (z2l v3) (z2m (z00.mk x1.1 x1.2.1 x1.2.2.1 x1.2.2.2.1 x1.2.2.2.2.1 x1.2.2.2.2.2.1) v3), .b true, .b true] (pA k3 (pA k3 (pA (z2u (X := X) k4) (pA k3 (pA k3 pT))))) (by kernel_rfl)
   ·obtain rfl := retE h
    exact fin (ok X) 1 (bF 4 []) (pR 4 k3 pT) (by kernel_rfl)
  ·rcases iteE h with ⟨k5, h⟩ | ⟨k5, h⟩
   ·obtain ⟨v4, k6, h⟩ := z0h h
    obtain ⟨v5, k7, h⟩ := z0h h
    obtain ⟨v6, k8, h⟩ := z0h h
    obtain ⟨v7, k9, h⟩ := z0h h
    obtain ⟨v8, k10, h⟩ := z0h h
    obtain rfl := retE h
    exact fin (ok X) 9 [.b true, .s (z3f v4) (z3g v4), .s (z0y v5) (z0z v5), .s (z3f v6) (z3g v6), .s (z0d v7) (z0e v7), .l (List.map z6c v8)] (pA k5 (pA (z42 (X := X) k6) (pA (z13 (X := X) k7) (pA (z42 (X := X) k8) (pA (z0g (X := X) k9) (pA (apm (L := x1.2.2.2.2.2.2) (M := [(z47.mk v4.2 v5.2 v6.2)]) zb7 k10) pT)))))) (by kernel_rfl)
   ·obtain rfl := retE h
    exact fin (ok X) 2 [.b false] (pA k5 pT) (by kernel_rfl)
 ·cases h
 ·obtain ⟨v9, k11, h⟩ := z0h h
  obtain rfl := retE h
  exact fin (ok X) 5 [.s (z0d v9) (z0e v9)] (pA (z0g (X := X) k11) pT) (by kernel_rfl)

theorem z68 {a0 : z00} {r : (z00 × Bool)} (h : z3k a0 = some r) : Cs Tryd.prog (GX X) 82 [xP 0 0] [oB 39 (bs (z01 a0))] (z50 r) (z52 r) := by
 refine fnT (cx := cx X) Tryd.f82 Tryd.call82 Tryd.func82 (by kernel_rfl) ?_
 unfold z3k at h
 rcases iteE h with ⟨k1, h⟩ | ⟨k1, h⟩
 ·obtain ⟨v1, k2, h⟩ := z0h h
  obtain rfl := retE h
  exact fin (ok X) 11 [.b true, .s (z2n v1) (z2o v1)] (pA k1 (pA (z2v (X := X) k2) pT)) (by kernel_rfl)
 ·obtain rfl := retE h
  exact fin (ok X) 12 [.b false] (pA k1 pT) (by kernel_rfl)

theorem z8v {n : Nat} (ih_parse_reader_expr : ∀ (a0 : z00) (r : (z00 × z03)), z0t n a0 = some r → Cs Tryd.prog (GX X) 52 [xP 0 0] [oB 39 (bs (z01 a0))] (z1c r) (z1d r)) (ih_parse_reader_chain_parse_reader_term : ∀ (a0 : z00) (a2 : (List ByteArray)) (a3 : Int) (r : (z00 × z03)), z06 n a0 a2 a3 = some r → Cs Tryd.prog (GX X) 64 [xP 0 0, .fn (.func 65) [.box 0 0] [], xL (List.map z4k a2), xI a3] [oB 39 (bs (z01 a0))] (z0l r) (z0m r)) (ih_parse_reader_term : ∀ (a0 : z00) (r : (z00 × z03)), z0p n a0 = some r → Cs Tryd.prog (GX X) 65 [xP 0 0] [oB 39 (bs (z01 a0))] (z22 r) (z23 r)) (ih_parse_reader_chain_parse_reader_factor : ∀ (a0 : z00) (a2 : (List ByteArray)) (a3 : Int) (r : (z00 × z03)), z05 n a0 a2 a3 = some r → Cs Tryd.prog (GX X) 64 [xP 0 0, .fn (.func 74) [.box 0 0] [], xL (List.map z4k a2), xI a3] [oB 39 (bs (z01 a0))] (z0i r) (z0j r)) (ih_parse_reader_factor : ∀ (a0 : z00) (r : (z00 × z03)), z0a n a0 = some r → Cs Tryd.prog (GX X) 74 [xP 0 0] [oB 39 (bs (z01 a0))] (z1n r) (z1o r)) (ih_parse_reader_negated : ∀ (a0 : z00) (r : (z00 × z03)), z0r n a0 = some r → Cs Tryd.prog (GX X) 79 [xP 0 0] [oB 39 (bs (z01 a0))] (z1s r) (z1t r)) (ih_parse_reader_parens : ∀ (a0 : z00) (r : (z00 × z03)), z0u n a0 = some r → Cs Tryd.prog (GX X) 80 [xP 0 0] [oB 39 (bs (z01 a0))] (z1w r) (z1x r)) (a0 : z00) (r : (z00 × z03)) (h : z0t (n + 1) a0 = some r) : Cs Tryd.prog (GX X) 52 [xP 0 0] [oB 39 (bs (z01 a0))] (z1c r) (z1d r) := by
 refine fnT (cx := cx X) Tryd.f52 Tryd.call52 Tryd.func52 (by kernel_rfl) ?_
 rw [z0t] at h
 obtain ⟨v1, k1, h⟩ := z0h h
 obtain rfl := retE h
 exact fin (ok X) 5 [.s (z0l v1) (z0m v1)] (pA (ih_parse_reader_chain_parse_reader_term _ _ _ _ k1) pT) (by kernel_rfl)

theorem z4y {n : Nat} (ih_parse_reader_expr : ∀ (a0 : z00) (r : (z00 × z03)), z0t n a0 = some r → Cs Tryd.prog (GX X) 52 [xP 0 0] [oB 39 (bs (z01 a0))] (z1c r) (z1d r)) (ih_parse_reader_chain_parse_reader_term : ∀ (a0 : z00) (a2 : (List ByteArray)) (a3 : Int) (r : (z00 × z03)), z06 n a0 a2 a3 = some r → Cs Tryd.prog (GX X) 64 [xP 0 0, .fn (.func 65) [.box 0 0] [], xL (List.map z4k a2), xI a3] [oB 39 (bs (z01 a0))] (z0l r) (z0m r)) (ih_parse_reader_term : ∀ (a0 : z00) (r : (z00 × z03)), z0p n a0 = some r → Cs Tryd.prog (GX X) 65 [xP 0 0] [oB 39 (bs (z01 a0))] (z22 r) (z23 r)) (ih_parse_reader_chain_parse_reader_factor : ∀ (a0 : z00) (a2 : (List ByteArray)) (a3 : Int) (r : (z00 × z03)), z05 n a0 a2 a3 = some r → Cs Tryd.prog (GX X) 64 [xP 0 0, .fn (.func 74) [.box 0 0] [], xL (List.map z4k a2), xI a3] [oB 39 (bs (z01 a0))] (z0i r) (z0j r)) (ih_parse_reader_factor : ∀ (a0 : z00) (r : (z00 × z03)), z0a n a0 = some r → Cs Tryd.prog (GX X) 74 [xP 0 0] [oB 39 (bs (z01 a0))] (z1n r) (z1o r)) (ih_parse_reader_negated : ∀ (a0 : z00) (r : (z00 × z03)), z0r n a0 = some r → Cs Tryd.prog (GX X) 79 [xP 0 0] [oB 39 (bs (z01 a0))] (z1s r) (z1t r)) (ih_parse_reader_parens : ∀ (a0 : z00) (r : (z00 × z03)), z0u n a0 = some r → Cs Tryd.prog (GX X) 80 [xP 0 0] [oB 39 (bs (z01 a0))] (z1w r) (z1x r)) (a0 : z00) (a2 : (List ByteArray)) (a3 : Int) (r : (z00 × z03)) (h : z06 (n + 1) a0 a2 a3 = some r) : Cs Tryd.prog (GX X) 64 [xP 0 0, .fn (.func 65) [.box 0 0] [], xL (List.map z4k a2), xI a3] [oB 39 (bs (z01 a0))] (z0l r) (z0m r) := by
 refine fnT (cx := cx X) Tryd.f64 Tryd.call64 Tryd.func64 (by kernel_rfl) ?_
 rw [z06] at h
 obtain ⟨v1, k1, h⟩ := z0h h
 refine adv (ok X) 5 [.s (z22 v1) (z23 v1)] (pA (ih_parse_reader_term _ _ k1) pT) (by kernel_rfl) ?_
 refine lp (ok X) (z1g (z0t n) (z06 n) (z0p n) (z05 n) (z0a n) (z0r n) (z0u n) a2 a3) (fun (x1 : ((List z07) × Int × Int × Int × Int × Int × Int × Int × ByteArray × (List z03))) => ⟨32, 1, [(0, [xP 0 0]), (1, [.fn (.func 65) [.box 0 0] []]), (2, [xL (List.map z4k a2)]), (3, [xI a3]), (8, [xP 1 0]), (9, [xP 2 0])], [oB 39 (bs (z01 (z00.mk x1.1 x1.2.1 x1.2.2.1 x1.2.2.2.1 x1.2.2.2.2.1 x1.2.2.2.2.2.1))), oB 55 [.pv (.int .i64 0), .pv (.int .i64 0), .pv (.str (ByteArray.mk #[])), .emp], oB 55 (bs (z3j (z03.mk x1.2.2.2.2.2.2.1 x1.2.2.2.2.2.2.2.1 x1.2.2.2.2.2.2.2.2.1 x1.2.2.2.2.2.2.2.2.2)))]⟩) (fun (j1 : ((List z07) × Int × Int × Int × Int × Int × Int × Int × ByteArray × (List z03))) => ⟨32, 1, [(8, [xP 1 0]), (9, [xP 2 0])], [oB 39 (bs (z01 (z00.mk j1.1 j1.2.1 j1.2.2.1 j1.2.2.2.1 j1.2.2.2.2.1 j1.2.2.2.2.2.1))), oB 55 [.pv (.int .i64 0), .pv (.int .i64 0), .pv (.str (ByteArray.mk #[])), .emp], oB 55 (bs (z3j (z03.mk j1.2.2.2.2.2.2.1 j1.2.2.2.2.2.2.2.1 j1.2.2.2.2.2.2.2.2.1 j1.2.2.2.2.2.2.2.2.2)))]⟩) z4v (v1.1.f_l, v1.1.f_end, v1.1.f_e, v1.1.f_at, v1.1.f_deep, v1.1.f_in, v1.2.Kind, v1.2.Num, v1.2.Name, v1.2.Kids) (fun _ => ⟨_, _, _, _, rfl⟩) h (by kernel_rfl) (fun x1 o h => ?_) (fun r' h => ?_) (fun j1 h => ?_)
 ·unfold z1g at h
  rcases iteE h with ⟨k2, h⟩ | ⟨k2, h⟩
  ·obtain ⟨v2, k3, h⟩ := z0h h
   refine adv (ok X) 11 [.b true, .s (z3n v2) (z3o v2)] (pA k2 (pA (z48 (X := X) k3) pT)) (by kernel_rfl) ?_
   rcases iteE h with ⟨k4, h⟩ | ⟨k4, h⟩
   ·obtain rfl := retE h
    exact fin (ok X) 2 [.b true] (pA k4 pT) (by kernel_rfl)
   ·obtain ⟨v3, k5, h⟩ := z0h h
    obtain rfl := retE h
    exact fin (ok X) 4 [.b false, .o [0, 1, 2, 3, 4, 5, 6, 7, 8], .s (z22 v3) (z23 v3), .bl (List.map z1p [(z03.mk x1.2.2.2.2.2.2.1 x1.2.2.2.2.2.2.2.1 x1.2.2.2.2.2.2.2.2.1 x1.2.2.2.2.2.2.2.2.2), v3.2])] (pA k4 (pA (ih_parse_reader_term _ _ k5) (pA (blc (e := z1p) (x := (z03.mk x1.2.2.2.2.2.2.1 x1.2.2.2.2.2.2.2.1 x1.2.2.2.2.2.2.2.2.1 x1.2.2.2.2.2.2.2.2.2)) (z40 _).symm (blc (e := z1p) (x := v3.2) (z40 _).symm (bl0 z1p))) pT))) (by kernel_rfl)
  ·obtain rfl := retE h
   exact fin (ok X) 5 [.b false] (pA k2 pT) (by kernel_rfl)
 ·cases h
 ·obtain rfl := retE h
  exact fin (ok X) 3 [] pT (by kernel_rfl)

theorem z8w {n : Nat} (ih_parse_reader_expr : ∀ (a0 : z00) (r : (z00 × z03)), z0t n a0 = some r → Cs Tryd.prog (GX X) 52 [xP 0 0] [oB 39 (bs (z01 a0))] (z1c r) (z1d r)) (ih_parse_reader_chain_parse_reader_term : ∀ (a0 : z00) (a2 : (List ByteArray)) (a3 : Int) (r : (z00 × z03)), z06 n a0 a2 a3 = some r → Cs Tryd.prog (GX X) 64 [xP 0 0, .fn (.func 65) [.box 0 0] [], xL (List.map z4k a2), xI a3] [oB 39 (bs (z01 a0))] (z0l r) (z0m r)) (ih_parse_reader_term : ∀ (a0 : z00) (r : (z00 × z03)), z0p n a0 = some r → Cs Tryd.prog (GX X) 65 [xP 0 0] [oB 39 (bs (z01 a0))] (z22 r) (z23 r)) (ih_parse_reader_chain_parse_reader_factor : ∀ (a0 : z00) (a2 : (List ByteArray)) (a3 : Int) (r : (z00 × z03)), z05 n a0 a2 a3 = some r → Cs Tryd.prog (GX X) 64 [xP 0 0, .fn (.func 74) [.box 0 0] [], xL (List.map z4k a2), xI a3] [oB 39 (bs (z01 a0))] (z0i r) (z0j r)) (ih_parse_reader_factor : ∀ (a0 : z00) (r : (z00 × z03)), z0a n a0 = some r → Cs Tryd.prog (GX X) 74 [xP 0 0] [oB 39 (bs (z01 a0))] (z1n r) (z1o r)) (ih_parse_reader_negated : ∀ (a0 : z00) (r : (z00 × z03)), z0r n a0 = some r → Cs Tryd.prog (GX X) 79 [xP 0 0] [oB 39 (bs (z01 a0))] (z1s r) (z1t r)) (ih_parse_reader_parens : ∀ (a0 : z00) (r : (z00 × z03)), z0u n a0 = some r → Cs Tryd.prog (GX X) 80 [xP 0 0] [oB 39 (bs (z01 a0))] (z1w r) (z1x r)) (a0 : z00) (r : (z00 × z03)) (h : z0p (n + 1) a0 = some r) : Cs Tryd.prog (GX X) 65 [xP 0 0] [oB 39 (bs (z01 a0))] (z22 r) (z23 r) := by
 refine fnT (cx := cx X) Tryd.f65 Tryd.call65 Tryd.func65 (by kernel_rfl) ?_
 rw [z0p] at h
 obtain ⟨v1, k1, h⟩ := z0h h
 obtain rfl := retE h
 exact fin (ok X) 5 [.s (z0i v1) (z0j v1)] (pA (ih_parse_reader_chain_parse_reader_factor _ _ _ _ k1) pT) (by kernel_rfl)

theorem z4m {n : Nat} (ih_parse_reader_expr : ∀ (a0 : z00) (r : (z00 × z03)), z0t n a0 = some r → Cs Tryd.prog (GX X) 52 [xP 0 0] [oB 39 (bs (z01 a0))] (z1c r) (z1d r)) (ih_parse_reader_chain_parse_reader_term : ∀ (a0 : z00) (a2 : (List ByteArray)) (a3 : Int) (r : (z00 × z03)), z06 n a0 a2 a3 = some r → Cs Tryd.prog (GX X) 64 [xP 0 0, .fn (.func 65) [.box 0 0] [], xL (List.map z4k a2), xI a3] [oB 39 (bs (z01 a0))] (z0l r) (z0m r)) (ih_parse_reader_term : ∀ (a0 : z00) (r : (z00 × z03)), z0p n a0 = some r → Cs Tryd.prog (GX X) 65 [xP 0 0] [oB 39 (bs (z01 a0))] (z22 r) (z23 r)) (ih_parse_reader_chain_parse_reader_factor : ∀ (a0 : z00) (a2 : (List ByteArray)) (a3 : Int) (r : (z00 × z03)), z05 n a0 a2 a3 = some r → Cs Tryd.prog (GX X) 64 [xP 0 0, .fn (.func 74) [.box 0 0] [], xL (List.map z4k a2), xI a3] [oB 39 (bs (z01 a0))] (z0i r) (z0j r)) (ih_parse_reader_factor : ∀ (a0 : z00) (r : (z00 × z03)), z0a n a0 = some r → Cs Tryd.prog (GX X) 74 [xP 0 0] [oB 39 (bs (z01 a0))] (z1n r) (z1o r)) (ih_parse_reader_negated : ∀ (a0 : z00) (r : (z00 × z03)), z0r n a0 = some r → Cs Tryd.prog (GX X) 79 [xP 0 0] [oB 39 (bs (z01 a0))] (z1s r) (z1t r)) (ih_parse_reader_parens : ∀ (a0 : z00) (r : (z00 × z03)), z0u n a0 = some r → Cs Tryd.prog (GX X) 80 [xP 0 0] [oB 39 (bs (z01 a0))] (z1w r) (z1x r)) (a0 : z00) (a2 : (List ByteArray)) (a3 : Int) (r : (z00 × z03)) (h : z05 (n + 1) a0 a2 a3 = some r) : Cs Tryd.prog (GX X) 64 [xP 0 0, .fn (.func 74) [.box 0 0] [], xL (List.map z4k a2), xI a3] [oB 39 (bs (z01 a0))] (z0i r) (z0j r) := by
 refine fnT (cx := cx X) Tryd.f64 Tryd.call64 Tryd.func64 (by kernel_rfl) ?_
 rw [z05] at h
 obtain ⟨v1, k1, h⟩ := z0h h
 refine adv (ok X) 5 [.s (z1n v1) (z1o v1)] (pA (ih_parse_reader_factor _ _ k1) pT) (by kernel_rfl) ?_
 refine lp (ok X) (z19 (z0t n) (z06 n) (z0p n) (z05 n) (z0a n) (z0r n) (z0u n) a2 a3) (fun (x1 : ((List z07) × Int × Int × Int × Int × Int × Int × Int × ByteArray × (List z03))) => ⟨32, 1, [(0, [xP 0 0]), (1, [.fn (.func 74) [.box 0 0] []]), (2, [xL (List.map z4k a2)]), (3, [xI a3]), (8, [xP 1 0]), (9, [xP 2 0])], [oB 39 (bs (z01 (z00.mk x1.1 x1.2.1 x1.2.2.1 x1.2.2.2.1 x1.2.2.2.2.1 x1.2.2.2.2.2.1))), oB 55 [.pv (.int .i64 0), .pv (.int .i64 0), .pv (.str (ByteArray.mk #[])), .emp], oB 55 (bs (z3j (z03.mk x1.2.2.2.2.2.2.1 x1.2.2.2.2.2.2.2.1 x1.2.2.2.2.2.2.2.2.1 x1.2.2.2.2.2.2.2.2.2)))]⟩) (fun (j1 : ((List z07) × Int × Int × Int × Int × Int × Int × Int × ByteArray × (List z03))) => ⟨32, 1, [(8, [xP 1 0]), (9, [xP 2 0])], [oB 39 (bs (z01 (z00.mk j1.1 j1.2.1 j1.2.2.1 j1.2.2.2.1 j1.2.2.2.2.1 j1.2.2.2.2.2.1))), oB 55 [.pv (.int .i64 0), .pv (.int .i64 0), .pv (.str (ByteArray.mk #[])), .emp], oB 55 (bs (z3j (z03.mk j1.2.2.2.2.2.2.1 j1.2.2.2.2.2.2.2.1 j1.2.2.2.2.2.2.2.2.1 j1.2.2.2.2.2.2.2.2.2)))]⟩) z4l (v1.1.f_l, v1.1.f_end, v1.1.f_e, v1.1.f_at, v1.1.f_deep, v1.1.f_in, v1.2.Kind, v1.2.Num, v1.2.Name, v1.2.Kids) (fun _ => ⟨_, _, _, _, rfl⟩) h (by kernel_rfl) (fun x1 o h => ?_) (fun r' h => ?_) (fun j1 h => ?_)
 ·unfold z19 at h
  rcases iteE h with ⟨k2, h⟩ | ⟨k2, h⟩
  ·obtain ⟨v2, k3, h⟩ := z0h h
   refine adv (ok X) 11 [.b true, .s (z3n v2) (z3o v2)] (pA k2 (pA (z48 (X := X) k3) pT)) (by kernel_rfl) ?_
   rcases iteE h with ⟨k4, h⟩ | ⟨k4, h⟩
   ·obtain rfl := retE h
    exact fin (ok X) 2 [.b true] (pA k4 pT) (by kernel_rfl)
   ·obtain ⟨v3, k5, h⟩ := z0h h
    obtain rfl := retE h
    exact fin (ok X) 4 [.b false, .o [0, 1, 2, 3, 4, 5, 6, 7, 8], .s (z1n v3) (z1o v3), .bl (List.map z1p [(z03.mk x1.2.2.2.2.2.2.1 x1.2.2.2.2.2.2.2.1 x1.2.2.2.2.2.2.2.2.1 x1.2.2.2.2.2.2.2.2.2), v3.2])] (pA k4 (pA (ih_parse_reader_factor _ _ k5) (pA (blc (e := z1p) (x := (z03.mk x1.2.2.2.2.2.2.1 x1.2.2.2.2.2.2.2.1 x1.2.2.2.2.2.2.2.2.1 x1.2.2.2.2.2.2.2.2.2)) (z40 _).symm (blc (e := z1p) (x := v3.2) (z40 _).symm (bl0 z1p))) pT))) (by kernel_rfl)
  ·obtain rfl := retE h
   exact fin (ok X) 5 [.b false] (pA k2 pT) (by kernel_rfl)
 ·cases h
 ·obtain rfl := retE h
  exact fin (ok X) 3 [] pT (by kernel_rfl)

theorem z7r {n : Nat} (ih_parse_reader_expr : ∀ (a0 : z00) (r : (z00 × z03)), z0t n a0 = some r → Cs Tryd.prog (GX X) 52 [xP 0 0] [oB 39 (bs (z01 a0))] (z1c r) (z1d r)) (ih_parse_reader_chain_parse_reader_term : ∀ (a0 : z00) (a2 : (List ByteArray)) (a3 : Int) (r : (z00 × z03)), z06 n a0 a2 a3 = some r → Cs Tryd.prog (GX X) 64 [xP 0 0, .fn (.func 65) [.box 0 0] [], xL (List.map z4k a2), xI a3] [oB 39 (bs (z01 a0))] (z0l r) (z0m r)) (ih_parse_reader_term : ∀ (a0 : z00) (r : (z00 × z03)), z0p n a0 = some r → Cs Tryd.prog (GX X) 65 [xP 0 0] [oB 39 (bs (z01 a0))] (z22 r) (z23 r)) (ih_parse_reader_chain_parse_reader_factor : ∀ (a0 : z00) (a2 : (List ByteArray)) (a3 : Int) (r : (z00 × z03)), z05 n a0 a2 a3 = some r → Cs Tryd.prog (GX X) 64 [xP 0 0, .fn (.func 74) [.box 0 0] [], xL (List.map z4k a2), xI a3] [oB 39 (bs (z01 a0))] (z0i r) (z0j r)) (ih_parse_reader_factor : ∀ (a0 : z00) (r : (z00 × z03)), z0a n a0 = some r → Cs Tryd.prog (GX X) 74 [xP 0 0] [oB 39 (bs (z01 a0))] (z1n r) (z1o r)) (ih_parse_reader_negated : ∀ (a0 : z00) (r : (z00 × z03)), z0r n a0 = some r → Cs Tryd.prog (GX X) 79 [xP 0 0] [oB 39 (bs (z01 a0))] (z1s r) (z1t r)) (ih_parse_reader_parens : ∀ (a0 : z00) (r : (z00 × z03)), z0u n a0 = some r → Cs Tryd.prog (GX X) 80 [xP 0 0] [oB 39 (bs (z01 a0))] (z1w r) (z1x r)) (a0 : z00) (r : (z00 × z03)) (h : z0a (n + 1) a0 = some r) : Cs Tryd.prog (GX X) 74 [xP 0 0] [oB 39 (bs (z01 a0))] (z1n r) (z1o r) := by
 refine fnT (cx := cx X) Tryd.f74 Tryd.call74 Tryd.func74 (by kernel_rfl) ?_
 rw [z0a] at h
 obtain ⟨v1, k1, h⟩ := z0h h
 refine adv (ok X) 6 [.s (z2l v1) (z2m a0 v1)] (pA (z2u (X := X) k1) pT) (by kernel_rfl) ?_
 rcases iteE h with ⟨k2, h⟩ | ⟨k2, h⟩
 ·obtain ⟨v2, k3, h⟩ := z0h h
  obtain rfl := retE h
  exact fin (ok X) 4 [.b true, .s (z1s v2) (z1t v2)] (pA k2 (pA (ih_parse_reader_negated _ _ k3) pT)) (by kernel_rfl)
 ·obtain ⟨v3, k4, h⟩ := z0h h
  refine adv (ok X) 3 [.b false, .s (z2l v3) (z2m a0 v3)] (pA k2 (pA (z2u (X := X) k4) pT)) (by kernel_rfl) ?_
  rcases iteE h with ⟨k5, h⟩ | ⟨k5, h⟩
  ·obtain ⟨v4, k6, h⟩ := z0h h
   obtain rfl := retE h
   exact fin (ok X) 4 [.b true, .s (z1w v4) (z1x v4)] (pA k5 (pA (ih_parse_reader_parens _ _ k6) pT)) (by kernel_rfl)
  ·obtain ⟨v5, k7, h⟩ := z0h h
   refine adv (ok X) 3 [.b false, .s (z4t v5) (z4u a0 v5)] (pA k5 (pA (z5u (X := X) k7) pT)) (by kernel_rfl) ?_
   rcases iteE h with ⟨k8, h⟩ | ⟨k8, h⟩
   ·obtain ⟨v6, k9, h⟩ := z0h h
    obtain rfl := retE h
    exact fin (ok X) 4 [.b true, .s (z3f v6) (z3g v6)] (pA k8 (pA (z42 (X := X) k9) pT)) (by kernel_rfl)
   ·obtain ⟨v7, k10, h⟩ := z0h h
    obtain rfl := retE h
    exact fin (ok X) 6 [.b false, .s (z0y v7) (z0z v7)] (pA k8 (pA (z13 (X := X) k10) pT)) (by kernel_rfl)

theorem z7i {n : Nat} (ih_parse_reader_expr : ∀ (a0 : z00) (r : (z00 × z03)), z0t n a0 = some r → Cs Tryd.prog (GX X) 52 [xP 0 0] [oB 39 (bs (z01 a0))] (z1c r) (z1d r)) (ih_parse_reader_chain_parse_reader_term : ∀ (a0 : z00) (a2 : (List ByteArray)) (a3 : Int) (r : (z00 × z03)), z06 n a0 a2 a3 = some r → Cs Tryd.prog (GX X) 64 [xP 0 0, .fn (.func 65) [.box 0 0] [], xL (List.map z4k a2), xI a3] [oB 39 (bs (z01 a0))] (z0l r) (z0m r)) (ih_parse_reader_term : ∀ (a0 : z00) (r : (z00 × z03)), z0p n a0 = some r → Cs Tryd.prog (GX X) 65 [xP 0 0] [oB 39 (bs (z01 a0))] (z22 r) (z23 r)) (ih_parse_reader_chain_parse_reader_factor : ∀ (a0 : z00) (a2 : (List ByteArray)) (a3 : Int) (r : (z00 × z03)), z05 n a0 a2 a3 = some r → Cs Tryd.prog (GX X) 64 [xP 0 0, .fn (.func 74) [.box 0 0] [], xL (List.map z4k a2), xI a3] [oB 39 (bs (z01 a0))] (z0i r) (z0j r)) (ih_parse_reader_factor : ∀ (a0 : z00) (r : (z00 × z03)), z0a n a0 = some r → Cs Tryd.prog (GX X) 74 [xP 0 0] [oB 39 (bs (z01 a0))] (z1n r) (z1o r)) (ih_parse_reader_negated : ∀ (a0 : z00) (r : (z00 × z03)), z0r n a0 = some r → Cs Tryd.prog (GX X) 79 [xP 0 0] [oB 39 (bs (z01 a0))] (z1s r) (z1t r)) (ih_parse_reader_parens : ∀ (a0 : z00) (r : (z00 × z03)), z0u n a0 = some r → Cs Tryd.prog (GX X) 80 [xP 0 0] [oB 39 (bs (z01 a0))] (z1w r) (z1x r)) (a0 : z00) (r : (z00 × z03)) (h : z0r (n + 1) a0 = some r) : Cs Tryd.prog (GX X) 79 [xP 0 0] [oB 39 (bs (z01 a0))] (z1s r) (z1t r) := by
 refine fnT (cx := cx X) Tryd.f79 Tryd.call79 Tryd.func79 (by kernel_rfl) ?_
 rw [z0r] at h
 obtain ⟨v1, k1, h⟩ := z0h h
 refine adv (ok X) 5 [.s (z50 v1) (z52 v1)] (pA (z68 (X := X) k1) pT) (by kernel_rfl) ?_
 rcases iteE h with ⟨k2, h⟩ | ⟨k2, h⟩
 ·obtain rfl := retE h
  exact fin (ok X) 4 [.b true] (pA k2 pT) (by kernel_rfl)
 ·obtain ⟨v2, k3, h⟩ := z0h h
  obtain ⟨v3, k4, h⟩ := z0h h
  obtain rfl := retE h
  exact fin (ok X) 11 [.b false, .s (z0d v2) (z0e v2), .s (z1n v3) (z1o v3), .bl (List.map z1p [v3.2])] (pA k2 (pA (z0g (X := X) k3) (pA (ih_parse_reader_factor _ _ k4) (pA (blc (e := z1p) (x := v3.2) (z40 _).symm (bl0 z1p)) pT)))) (by kernel_rfl)

theorem z7s {n : Nat} (ih_parse_reader_expr : ∀ (a0 : z00) (r : (z00 × z03)), z0t n a0 = some r → Cs Tryd.prog (GX X) 52 [xP 0 0] [oB 39 (bs (z01 a0))] (z1c r) (z1d r)) (ih_parse_reader_chain_parse_reader_term : ∀ (a0 : z00) (a2 : (List ByteArray)) (a3 : Int) (r : (z00 × z03)), z06 n a0 a2 a3 = some r → Cs Tryd.prog (GX X) 64 [xP 0 0, .fn (.func 65) [.box 0 0] [], xL (List.map z4k a2), xI a3] [oB 39 (bs (z01 a0))] (z0l r) (z0m r)) (ih_parse_reader_term : ∀ (a0 : z00) (r : (z00 × z03)), z0p n a0 = some r → Cs Tryd.prog (GX X) 65 [xP 0 0] [oB 39 (bs (z01 a0))] (z22 r) (z23 r)) (ih_parse_reader_chain_parse_reader_factor : ∀ (a0 : z00) (a2 : (List ByteArray)) (a3 : Int) (r : (z00 × z03)), z05 n a0 a2 a3 = some r → Cs Tryd.prog (GX X) 64 [xP 0 0, .fn (.func 74) [.box 0 0] [], xL (List.map z4k a2), xI a3] [oB 39 (bs (z01 a0))] (z0i r) (z0j r)) (ih_parse_reader_factor : ∀ (a0 : z00) (r : (z00 × z03)), z0a n a0 = some r → Cs Tryd.prog (GX X) 74 [xP 0 0] [oB 39 (bs (z01 a0))] (z1n r) (z1o r)) (ih_parse_reader_negated : ∀ (a0 : z00) (r : (z00 × z03)), z0r n a0 = some r → Cs Tryd.prog (GX X) 79 [xP 0 0] [oB 39 (bs (z01 a0))] (z1s r) (z1t r)) (ih_parse_reader_parens : ∀ (a0 : z00) (r : (z00 × z03)), z0u n a0 = some r → Cs Tryd.prog (GX X) 80 [xP 0 0] [oB 39 (bs (z01 a0))] (z1w r) (z1x r)) (a0 : z00) (r : (z00 × z03)) (h : z0u (n + 1) a0 = some r) : Cs Tryd.prog (GX X) 80 [xP 0 0] [oB 39 (bs (z01 a0))] (z1w r) (z1x r) := by
 refine fnT (cx := cx X) Tryd.f80 Tryd.call80 Tryd.func80 (by kernel_rfl) ?_
 rw [z0u] at h
 obtain ⟨v1, k1, h⟩ := z0h h
 refine adv (ok X) 5 [.s (z50 v1) (z52 v1)] (pA (z68 (X := X) k1) pT) (by kernel_rfl) ?_
 rcases iteE h with ⟨k2, h⟩ | ⟨k2, h⟩
 ·obtain rfl := retE h
  exact fin (ok X) 4 [.b true] (pA k2 pT) (by kernel_rfl)
 ·obtain ⟨v2, k3, h⟩ := z0h h
  obtain ⟨v3, k4, h⟩ := z0h h
  obtain ⟨v4, k5, h⟩ := z0h h
  obtain rfl := retE h
  exact fin (ok X) 13 [.b false, .s (z0d v2) (z0e v2), .s (z1c v3) (z1d v3), .s (z0d v4) (z0e v4)] (pA k2 (pA (z0g (X := X) k3) (pA (ih_parse_reader_expr _ _ k4) (pA (z0g (X := X) k5) pT)))) (by kernel_rfl)

theorem z63 : ∀ n : Nat, (∀ (a0 : z00) (r : (z00 × z03)), z0t n a0 = some r → Cs Tryd.prog (GX X) 52 [xP 0 0] [oB 39 (bs (z01 a0))] (z1c r) (z1d r)) ∧ (∀ (a0 : z00) (a2 : (List ByteArray)) (a3 : Int) (r : (z00 × z03)), z06 n a0 a2 a3 = some r → Cs Tryd.prog (GX X) 64 [xP 0 0, .fn (.func 65) [.box 0 0] [], xL (List.map z4k a2), xI a3] [oB 39 (bs (z01 a0))] (z0l r) (z0m r)) ∧ (∀ (a0 : z00) (r : (z00 × z03)), z0p n a0 = some r → Cs Tryd.prog (GX X) 65 [xP 0 0] [oB 39 (bs (z01 a0))] (z22 r) (z23 r)) ∧ (∀ (a0 : z00) (a2 : (List ByteArray)) (a3 : Int) (r : (z00 × z03)), z05 n a0 a2 a3 = some r → Cs Tryd.prog (GX X) 64 [xP 0 0, .fn (.func 74) [.box 0 0] [], xL (List.map z4k a2), xI a3] [oB 39 (bs (z01 a0))] (z0i r) (z0j r)) ∧ (∀ (a0 : z00) (r : (z00 × z03)), z0a n a0 = some r → Cs Tryd.prog (GX X) 74 [xP 0 0] [oB 39 (bs (z01 a0))] (z1n r) (z1o r)) ∧ (∀ (a0 : z00) (r : (z00 × z03)), z0r n a0 = some r → Cs Tryd.prog (GX X) 79 [xP 0 0] [oB 39 (bs (z01 a0))] (z1s r) (z1t r)) ∧ (∀ (a0 : z00) (r : (z00 × z03)), z0u n a0 = some r → Cs Tryd.prog (GX X) 80 [xP 0 0] [oB 39 (bs (z01 a0))] (z1w r) (z1x r))
 | 0 => ⟨(fun _ _ h => by rw [z0t] at h; cases h), (fun _ _ _ _ h => by rw [z06] at h; cases h), (fun _ _ h => by rw [z0p] at h; cases h), (fun _ _ _ _ h => by rw [z05] at h; cases h), (fun _ _ h => by rw [z0a] at h; cases h), (fun _ _ h => by rw [z0r] at h; cases h), (fun _ _ h => by rw [z0u] at h; cases h)⟩
 | n + 1 => by
  have ih := z63 n
  exact ⟨z8v ih.1 ih.2.1 ih.2.2.1 ih.2.2.2.1 ih.2.2.2.2.1 ih.2.2.2.2.2.1 ih.2.2.2.2.2.2, z4y ih.1 ih.2.1 ih.2.2.1 ih.2.2.2.1 ih.2.2.2.2.1 ih.2.2.2.2.2.1 ih.2.2.2.2.2.2, z8w ih.1 ih.2.1 ih.2.2.1 ih.2.2.2.1 ih.2.2.2.2.1 ih.2.2.2.2.2.1 ih.2.2.2.2.2.2, z4m ih.1 ih.2.1 ih.2.2.1 ih.2.2.2.1 ih.2.2.2.2.1 ih.2.2.2.2.2.1 ih.2.2.2.2.2.2, z7r ih.1 ih.2.1 ih.2.2.1 ih.2.2.2.1 ih.2.2.2.2.1 ih.2.2.2.2.2.1 ih.2.2.2.2.2.2, z7i ih.1 ih.2.1 ih.2.2.1 ih.2.2.2.1 ih.2.2.2.2.1 ih.2.2.2.2.2.1 ih.2.2.2.2.2.2, z7s ih.1 ih.2.1 ih.2.2.1 ih.2.2.2.1 ih.2.2.2.2.1 ih.2.2.2.2.2.1 ih.2.2.2.2.2.2⟩

theorem z4d {a0 : z00} {r : (z00 × z03)} (h : z2q a0 = some r) : Cs Tryd.prog (GX X) 52 [xP 0 0] [oB 39 (bs (z01 a0))] (z1c r) (z1d r) := by
 obtain ⟨n, hn⟩ := unfE h
 exact (z63 n).1 _ _ hn

theorem z8x {a0 : z00} {r : (z00 × z04)} (h : z3s a0 = some r) : Cs Tryd.prog (GX X) 35 [xP 0 0] [oB 39 (bs (z01 a0))] (z6j r) (z6k r) := by
 refine fnT (cx := cx X) Tryd.f35 Tryd.call35 Tryd.func35 (by kernel_rfl) ?_
 unfold z3s at h
 obtain ⟨v1, k1, h⟩ := z0h h
 obtain ⟨v2, k2, h⟩ := z0h h
 obtain ⟨v3, k3, h⟩ := z0h h
 obtain ⟨v4, k4, h⟩ := z0h h
 obtain ⟨v5, k5, h⟩ := z0h h
 obtain ⟨v6, k6, h⟩ := z0h h
 obtain ⟨v7, k7, h⟩ := z0h h
 obtain rfl := retE h
 exact fin (ok X) 19 [.s (z0y v1) (z0z v1), .s (z0d v2) (z0e v2), .s (z0y v3) (z0z v3), .s (z0d v4) (z0e v4), .s (z1c v5) (z1d v5), .s (z0d v6) (z0e v6), .s (z0d v7) (z0e v7)] (pA (z13 (X := X) k1) (pA (z0g (X := X) k2) (pA (z13 (X := X) k3) (pA (z0g (X := X) k4) (pA (z4d (X := X) k5) (pA (z0g (X := X) k6) (pA (z0g (X := X) k7) pT))))))) (by kernel_rfl)

theorem z5h {a0 : z00} {r : (z00 × z3p)} (h : z2r a0 = some r) : Cs Tryd.prog (GX X) 50 [xP 0 0] [oB 39 (bs (z01 a0))] (z4b r) (z4c r) := by
 refine fnT (cx := cx X) Tryd.f50 Tryd.call50 Tryd.func50 (by kernel_rfl) ?_
 unfold z2r at h
 obtain ⟨v1, k1, h⟩ := z0h h
 obtain ⟨v2, k2, h⟩ := z0h h
 obtain ⟨v3, k3, h⟩ := z0h h
 refine adv (ok X) 11 [.s (z0d v1) (z0e v1), .s (z1c v2) (z1d v2), .s (z3n v3) (z3o v3)] (pA (z0g (X := X) k1) (pA (z4d (X := X) k2) (pA (z48 (X := X) k3) pT))) (by kernel_rfl) ?_
 rcases iteE h with ⟨k4, h⟩ | ⟨k4, h⟩
 ·obtain ⟨v4, k5, h⟩ := z0h h
  obtain rfl := retE h
  exact fin (ok X) 6 [.b true, .s (z2n v4) (z2o v4)] (pA k4 (pA (z2v (X := X) k5) pT)) (by kernel_rfl)
 ·obtain ⟨v5, k6, h⟩ := z0h h
  obtain ⟨v6, k7, h⟩ := z0h h
  obtain rfl := retE h
  exact fin (ok X) 11 [.b false, .s (z1c v5) (z1d v5), .s (z0d v6) (z0e v6)] (pA k4 (pA (z4d (X := X) k6) (pA (z0g (X := X) k7) pT))) (by kernel_rfl)

theorem z7t {a0 : z00} {r : (z00 × z04)} (h : z3b a0 = some r) : Cs Tryd.prog (GX X) 37 [xP 0 0] [oB 39 (bs (z01 a0))] (z5z r) (z60 r) := by
 refine fnT (cx := cx X) Tryd.f37 Tryd.call37 Tryd.func37 (by kernel_rfl) ?_
 unfold z3b at h
 obtain ⟨v1, k1, h⟩ := z0h h
 obtain ⟨v2, k2, h⟩ := z0h h
 obtain rfl := retE h
 exact fin (ok X) 9 [.s (z4b v1) (z4c v1), .s (z0d v2) (z0e v2)] (pA (z5h (X := X) k1) (pA (z0g (X := X) k2) pT)) (by kernel_rfl)

theorem z8b {a0 : z00} {r : (z00 × z04)} (h : z3l a0 = some r) : Cs Tryd.prog (GX X) 38 [xP 0 0] [oB 39 (bs (z01 a0))] (z66 r) (z67 r) := by
 refine fnT (cx := cx X) Tryd.f38 Tryd.call38 Tryd.func38 (by kernel_rfl) ?_
 unfold z3l at h
 obtain ⟨v1, k1, h⟩ := z0h h
 obtain ⟨v2, k2, h⟩ := z0h h
 obtain rfl := retE h
 exact fin (ok X) 9 [.s (z0y v1) (z0z v1), .s (z0d v2) (z0e v2)] (pA (z13 (X := X) k1) (pA (z0g (X := X) k2) pT)) (by kernel_rfl)

theorem z7u {a0 : z00} {r : (z00 × z04)} (h : z3c a0 = some r) : Cs Tryd.prog (GX X) 39 [xP 0 0] [oB 39 (bs (z01 a0))] (z61 r) (z62 r) := by
 refine fnT (cx := cx X) Tryd.f39 Tryd.call39 Tryd.func39 (by kernel_rfl) ?_
 unfold z3c at h
 obtain ⟨v1, k1, h⟩ := z0h h
 obtain ⟨v2, k2, h⟩ := z0h h
 obtain ⟨v3, k3, h⟩ := z0h h
 obtain ⟨v4, k4, h⟩ := z0h h
 obtain rfl := retE h
 exact fin (ok X) 13 [.s (z0y v1) (z0z v1), .s (z0d v2) (z0e v2), .s (z1c v3) (z1d v3), .s (z0d v4) (z0e v4)] (pA (z13 (X := X) k1) (pA (z0g (X := X) k2) (pA (z4d (X := X) k3) (pA (z0g (X := X) k4) pT)))) (by kernel_rfl)

theorem z8c {n : Nat} (ih_parse_reader_stmts : ∀ (a0 : z00) (r : (z00 × (List z04))), z0n n a0 = some r → Cs Tryd.prog (GX X) 18 [xP 0 0] [oB 39 (bs (z01 a0))] (z1j r) (z1k r)) (ih_parse_reader_stmt : ∀ (a0 : z00) (r : (z00 × z04 × Bool)), z0f n a0 = some r → Cs Tryd.prog (GX X) 27 [xP 0 0] [oB 39 (bs (z01 a0))] (z2b r) (z2c r)) (ih_parse_reader_conditional : ∀ (a0 : z00) (r : (z00 × z04)), z0k n a0 = some r → Cs Tryd.prog (GX X) 33 [xP 0 0] [oB 39 (bs (z01 a0))] (z1e r) (z1f r)) (ih_parse_reader_loop : ∀ (a0 : z00) (r : (z00 × z04)), z10 n a0 = some r → Cs Tryd.prog (GX X) 34 [xP 0 0] [oB 39 (bs (z01 a0))] (z2d r) (z2e r)) (ih_parse_reader_recv : ∀ (a0 : z00) (r : (z00 × z04)), z0x n a0 = some r → Cs Tryd.prog (GX X) 36 [xP 0 0] [oB 39 (bs (z01 a0))] (z24 r) (z25 r)) (ih_parse_reader_block : ∀ (a0 : z00) (r : (z00 × (List z04))), z0b n a0 = some r → Cs Tryd.prog (GX X) 51 [xP 0 0] [oB 39 (bs (z01 a0))] (z1l r) (z1m r)) (ih_parse_reader_arm : ∀ (a0 : z00) (r : (z00 × z27)), z0s n a0 = some r → Cs Tryd.prog (GX X) 53 [xP 0 0] [oB 39 (bs (z01 a0))] (z29 r) (z2a r)) (a0 : z00) (r : (z00 × (List z04))) (h : z0n (n + 1) a0 = some r) : Cs Tryd.prog (GX X) 18 [xP 0 0] [oB 39 (bs (z01 a0))] (z1j r) (z1k r) := by
 refine fnT (cx := cx X) Tryd.f18 Tryd.call18 Tryd.func18 (by kernel_rfl) ?_
 rw [z0n] at h
 refine adv (ok X) 4 [] pT (by kernel_rfl) ?_
 refine lp (ok X) (z41 (z0n n) (z0f n) (z0k n) (z10 n) (z0x n) (z0b n) (z0s n)) (fun (x1 : ((List z07) × Int × Int × Int × Int × Int × (List z04))) => ⟨18, 1, [(0, [xP 0 0]), (3, [xR 1])], [oB 39 (bs (z01 (z00.mk x1.1 x1.2.1 x1.2.2.1 x1.2.2.2.1 x1.2.2.2.2.1 x1.2.2.2.2.2.1))), oR true 60 19 (List.map z28 x1.2.2.2.2.2.2)]⟩) (fun (j1 : Unit) => ⟨18, 1, [], [none]⟩) z8a (a0.f_l, a0.f_end, a0.f_e, a0.f_at, a0.f_deep, a0.f_in, []) (fun _ => ⟨_, _, _, _, rfl⟩) h (by kernel_rfl) (fun x1 o h => ?_) (fun r' h => ?_) (fun j1 h => ?_)
 ·unfold z41 at h
  obtain ⟨v1, k1, h⟩ := z0h h
  refine adv (ok X) 6 [.s (z2b v1) (z2c v1)] (pA (ih_parse_reader_stmt _ _ k1) pT) (by kernel_rfl) ?_
  rcases iteE h with ⟨k2, h⟩ | ⟨k2, h⟩
  ·obtain rfl := retE h
   exact fin (ok X) 4 [.b true] (pA k2 pT) (by kernel_rfl)
  ·obtain ⟨v2, k3, h⟩ := z0h h
   obtain rfl := retE h
   exact fin (ok X) 4 [.b false, .bl (List.map z28 [v1.2.1]), .l (List.map z28 v2)] (pA k2 (pA (blc (e := z28) (x := v1.2.1) (z2i _).symm (bl0 z28)) (pA (apm (L := x1.2.2.2.2.2.2) (M := [v1.2.1]) zb4 k3) pT))) (by kernel_rfl)
 ·obtain rfl := retE h
  kernel_rfl
 ·cases h

theorem z8y {n : Nat} (ih_parse_reader_stmts : ∀ (a0 : z00) (r : (z00 × (List z04))), z0n n a0 = some r → Cs Tryd.prog (GX X) 18 [xP 0 0] [oB 39 (bs (z01 a0))] (z1j r) (z1k r)) (ih_parse_reader_stmt : ∀ (a0 : z00) (r : (z00 × z04 × Bool)), z0f n a0 = some r → Cs Tryd.prog (GX X) 27 [xP 0 0] [oB 39 (bs (z01 a0))] (z2b r) (z2c r)) (ih_parse_reader_conditional : ∀ (a0 : z00) (r : (z00 × z04)), z0k n a0 = some r → Cs Tryd.prog (GX X) 33 [xP 0 0] [oB 39 (bs (z01 a0))] (z1e r) (z1f r)) (ih_parse_reader_loop : ∀ (a0 : z00) (r : (z00 × z04)), z10 n a0 = some r → Cs Tryd.prog (GX X) 34 [xP 0 0] [oB 39 (bs (z01 a0))] (z2d r) (z2e r)) (ih_parse_reader_recv : ∀ (a0 : z00) (r : (z00 × z04)), z0x n a0 = some r → Cs Tryd.prog (GX X) 36 [xP 0 0] [oB 39 (bs (z01 a0))] (z24 r) (z25 r)) (ih_parse_reader_block : ∀ (a0 : z00) (r : (z00 × (List z04))), z0b n a0 = some r → Cs Tryd.prog (GX X) 51 [xP 0 0] [oB 39 (bs (z01 a0))] (z1l r) (z1m r)) (ih_parse_reader_arm : ∀ (a0 : z00) (r : (z00 × z27)), z0s n a0 = some r → Cs Tryd.prog (GX X) 53 [xP 0 0] [oB 39 (bs (z01 a0))] (z29 r) (z2a r)) (a0 : z00) (r : (z00 × z04 × Bool)) (h : z0f (n + 1) a0 = some r) : Cs Tryd.prog (GX X) 27 [xP 0 0] [oB 39 (bs (z01 a0))] (z2b r) (z2c r) := by
 refine fnT (cx := cx X) Tryd.f27 Tryd.call27 Tryd.func27 (by kernel_rfl) ?_
 rw [z0f] at h
 obtain ⟨v1, k1, h⟩ := z0h h
 refine adv (ok X) 6 [.s (z1a v1) (z1b v1)] (pA (z1h (X := X) k1) pT) (by kernel_rfl) ?_
 rcases iteE h with ⟨k2, h⟩ | ⟨k2, h⟩
 ·obtain ⟨v2, k3, h⟩ := z0h h
  obtain rfl := retE h
  exact fin (ok X) 4 [.b true, .s (z1e v2) (z1f v2)] (pA k2 (pA (ih_parse_reader_conditional _ _ k3) pT)) (by kernel_rfl)
 ·obtain ⟨v3, k4, h⟩ := z0h h
  refine adv (ok X) 3 [.b false, .s (z1a v3) (z1b v3)] (pA k2 (pA (z1h (X := X) k4) pT)) (by kernel_rfl) ?_
  rcases iteE h with ⟨k5, h⟩ | ⟨k5, h⟩
  ·obtain ⟨v4, k6, h⟩ := z0h h
   obtain rfl := retE h
   exact fin (ok X) 4 [.b true, .s (z2d v4) (z2e v4)] (pA k5 (pA (ih_parse_reader_loop _ _ k6) pT)) (by kernel_rfl)
  ·obtain ⟨v5, k7, h⟩ := z0h h
   refine adv (ok X) 3 [.b false, .s (z1a v5) (z1b v5)] (pA k5 (pA (z1h (X := X) k7) pT)) (by kernel_rfl) ?_
   rcases iteE h with ⟨k8, h⟩ | ⟨k8, h⟩
   ·obtain ⟨v6, k9, h⟩ := z0h h
    obtain rfl := retE h
    exact fin (ok X) 4 [.b true, .s (z6j v6) (z6k v6)] (pA k8 (pA (z8x (X := X) k9) pT)) (by kernel_rfl)
   ·obtain ⟨v7, k10, h⟩ := z0h h
    refine adv (ok X) 3 [.b false, .s (z1a v7) (z1b v7)] (pA k8 (pA (z1h (X := X) k10) pT)) (by kernel_rfl) ?_
    rcases iteE h with ⟨k11, h⟩ | ⟨k11, h⟩
    ·obtain ⟨v8, k12, h⟩ := z0h h
     obtain rfl := retE h
     exact fin (ok X) 4 [.b true, .s (z24 v8) (z25 v8)] (pA k11 (pA (ih_parse_reader_recv _ _ k12) pT)) (by kernel_rfl)
    ·obtain ⟨v9, k13, h⟩ := z0h h
     refine adv (ok X) 3 [.b false, .s (z1a v9) (z1b v9)] (pA k11 (pA (z1h (X := X) k13) pT)) (by kernel_rfl) ?_
     rcases iteE h with ⟨k14, h⟩ | ⟨k14, h⟩
     ·obtain ⟨v10, k15, h⟩ := z0h h
      obtain rfl := retE h
      exact fin (ok X) 4 [.b true, .s (z5z v10) (z60 v10)] (pA k14 (pA (z7t (X := X) k15) pT)) (by kernel_rfl)
     ·obtain ⟨v11, k16, h⟩ := z0h h
      refine adv (ok X) 3 [.b false, .s (z1a v11) (z1b v11)] (pA k14 (pA (z1h (X := X) k16) pT)) (by kernel_rfl) ?_
      rcases iteE h with ⟨k17, h⟩ | ⟨k17, h⟩
      ·obtain ⟨v12, k18, h⟩ := z0h h
       obtain rfl := retE h
       exact fin (ok X) 4 [.b true, .s (z66 v12) (z67 v12)] (pA k17 (pA (z8b (X := X) k18) pT)) (by kernel_rfl)
      ·obtain ⟨v13, k19, h⟩ := z0h h
       refine adv (ok X) 3 [.b false, .s (z4t v13) (z4u v11.1 v13)] (pA k17 (pA (z5u (X := X) k19) pT)) (by kernel_rfl) ?_
       rcases iteE h with ⟨k20, h⟩ | ⟨k20, h⟩
       ·obtain ⟨v14, k21, h⟩ := z0h h
        obtain rfl := retE h
        exact fin (ok X) 4 [.b true, .s (z61 v14) (z62 v14)] (pA k20 (pA (z7u (X := X) k21) pT)) (by kernel_rfl)
       ·obtain rfl := retE h
        exact fin (ok X) 6 [.b false] (pA k20 pT) (by kernel_rfl)

theorem z6p {n : Nat} (ih_parse_reader_stmts : ∀ (a0 : z00) (r : (z00 × (List z04))), z0n n a0 = some r → Cs Tryd.prog (GX X) 18 [xP 0 0] [oB 39 (bs (z01 a0))] (z1j r) (z1k r)) (ih_parse_reader_stmt : ∀ (a0 : z00) (r : (z00 × z04 × Bool)), z0f n a0 = some r → Cs Tryd.prog (GX X) 27 [xP 0 0] [oB 39 (bs (z01 a0))] (z2b r) (z2c r)) (ih_parse_reader_conditional : ∀ (a0 : z00) (r : (z00 × z04)), z0k n a0 = some r → Cs Tryd.prog (GX X) 33 [xP 0 0] [oB 39 (bs (z01 a0))] (z1e r) (z1f r)) (ih_parse_reader_loop : ∀ (a0 : z00) (r : (z00 × z04)), z10 n a0 = some r → Cs Tryd.prog (GX X) 34 [xP 0 0] [oB 39 (bs (z01 a0))] (z2d r) (z2e r)) (ih_parse_reader_recv : ∀ (a0 : z00) (r : (z00 × z04)), z0x n a0 = some r → Cs Tryd.prog (GX X) 36 [xP 0 0] [oB 39 (bs (z01 a0))] (z24 r) (z25 r)) (ih_parse_reader_block : ∀ (a0 : z00) (r : (z00 × (List z04))), z0b n a0 = some r → Cs Tryd.prog (GX X) 51 [xP 0 0] [oB 39 (bs (z01 a0))] (z1l r) (z1m r)) (ih_parse_reader_arm : ∀ (a0 : z00) (r : (z00 × z27)), z0s n a0 = some r → Cs Tryd.prog (GX X) 53 [xP 0 0] [oB 39 (bs (z01 a0))] (z29 r) (z2a r)) (a0 : z00) (r : (z00 × z04)) (h : z0k (n + 1) a0 = some r) : Cs Tryd.prog (GX X) 33 [xP 0 0] [oB 39 (bs (z01 a0))] (z1e r) (z1f r) := by
 refine fnT (cx := cx X) Tryd.f33 Tryd.call33 Tryd.func33 (by kernel_rfl) ?_
 rw [z0k] at h
 obtain ⟨v1, k1, h⟩ := z0h h
 obtain ⟨v2, k2, h⟩ := z0h h
 obtain ⟨v3, k3, h⟩ := z0h h
 refine adv (ok X) 9 [.s (z4b v1) (z4c v1), .s (z1l v2) (z1m v2), .s (z1a v3) (z1b v3)] (pA (z5h (X := X) k1) (pA (ih_parse_reader_block _ _ k2) (pA (z1h (X := X) k3) pT))) (by kernel_rfl) ?_
 rcases iteE h with ⟨k4, h⟩ | ⟨k4, h⟩
 ·obtain ⟨v4, k5, h⟩ := z0h h
  obtain rfl := retE h
  exact fin (ok X) 5 [.b true, .s (z1l v4) (z1m v4)] (pA k4 (pA (ih_parse_reader_block _ _ k5) pT)) (by kernel_rfl)
 ·obtain rfl := retE h
  exact fin (ok X) 5 [.b false] (pA k4 pT) (by kernel_rfl)

theorem z8z {n : Nat} (ih_parse_reader_stmts : ∀ (a0 : z00) (r : (z00 × (List z04))), z0n n a0 = some r → Cs Tryd.prog (GX X) 18 [xP 0 0] [oB 39 (bs (z01 a0))] (z1j r) (z1k r)) (ih_parse_reader_stmt : ∀ (a0 : z00) (r : (z00 × z04 × Bool)), z0f n a0 = some r → Cs Tryd.prog (GX X) 27 [xP 0 0] [oB 39 (bs (z01 a0))] (z2b r) (z2c r)) (ih_parse_reader_conditional : ∀ (a0 : z00) (r : (z00 × z04)), z0k n a0 = some r → Cs Tryd.prog (GX X) 33 [xP 0 0] [oB 39 (bs (z01 a0))] (z1e r) (z1f r)) (ih_parse_reader_loop : ∀ (a0 : z00) (r : (z00 × z04)), z10 n a0 = some r → Cs Tryd.prog (GX X) 34 [xP 0 0] [oB 39 (bs (z01 a0))] (z2d r) (z2e r)) (ih_parse_reader_recv : ∀ (a0 : z00) (r : (z00 × z04)), z0x n a0 = some r → Cs Tryd.prog (GX X) 36 [xP 0 0] [oB 39 (bs (z01 a0))] (z24 r) (z25 r)) (ih_parse_reader_block : ∀ (a0 : z00) (r : (z00 × (List z04))), z0b n a0 = some r → Cs Tryd.prog (GX X) 51 [xP 0 0] [oB 39 (bs (z01 a0))] (z1l r) (z1m r)) (ih_parse_reader_arm : ∀ (a0 : z00) (r : (z00 × z27)), z0s n a0 = some r → Cs Tryd.prog (GX X) 53 [xP 0 0] [oB 39 (bs (z01 a0))] (z29 r) (z2a r)) (a0 : z00) (r : (z00 × z04)) (h : z10 (n + 1) a0 = some r) : Cs Tryd.prog (GX X) 34 [xP 0 0] [oB 39 (bs (z01 a0))] (z2d r) (z2e r) := by
 refine fnT (cx := cx X) Tryd.f34 Tryd.call34 Tryd.func34 (by kernel_rfl) ?_
 rw [z10] at h
 obtain ⟨v1, k1, h⟩ := z0h h
 obtain ⟨v2, k2, h⟩ := z0h h
 obtain rfl := retE h
 exact fin (ok X) 9 [.s (z4b v1) (z4c v1), .s (z1l v2) (z1m v2)] (pA (z5h (X := X) k1) (pA (ih_parse_reader_block _ _ k2) pT)) (by kernel_rfl)

theorem z90 {n : Nat} (ih_parse_reader_stmts : ∀ (a0 : z00) (r : (z00 × (List z04))), z0n n a0 = some r → Cs Tryd.prog (GX X) 18 [xP 0 0] [oB 39 (bs (z01 a0))] (z1j r) (z1k r)) (ih_parse_reader_stmt : ∀ (a0 : z00) (r : (z00 × z04 × Bool)), z0f n a0 = some r → Cs Tryd.prog (GX X) 27 [xP 0 0] [oB 39 (bs (z01 a0))] (z2b r) (z2c r)) (ih_parse_reader_conditional : ∀ (a0 : z00) (r : (z00 × z04)), z0k n a0 = some r → Cs Tryd.prog (GX X) 33 [xP 0 0] [oB 39 (bs (z01 a0))] (z1e r) (z1f r)) (ih_parse_reader_loop : ∀ (a0 : z00) (r : (z00 × z04)), z10 n a0 = some r → Cs Tryd.prog (GX X) 34 [xP 0 0] [oB 39 (bs (z01 a0))] (z2d r) (z2e r)) (ih_parse_reader_recv : ∀ (a0 : z00) (r : (z00 × z04)), z0x n a0 = some r → Cs Tryd.prog (GX X) 36 [xP 0 0] [oB 39 (bs (z01 a0))] (z24 r) (z25 r)) (ih_parse_reader_block : ∀ (a0 : z00) (r : (z00 × (List z04))), z0b n a0 = some r → Cs Tryd.prog (GX X) 51 [xP 0 0] [oB 39 (bs (z01 a0))] (z1l r) (z1m r)) (ih_parse_reader_arm : ∀ (a0 : z00) (r : (z00 × z27)), z0s n a0 = some r → Cs Tryd.prog (GX X) 53 [xP 0 0] [oB 39 (bs (z01 a0))] (z29 r) (z2a r)) (a0 : z00) (r : (z00 × z04)) (h : z0x (n + 1) a0 = some r) : Cs Tryd.prog (GX X) 36 [xP 0 0] [oB 39 (bs (z01 a0))] (z24 r) (z25 r) := by
 refine fnT (cx := cx X) Tryd.f36 Tryd.call36 Tryd.func36 (by kernel_rfl) ?_
 rw [z0x] at h
 obtain ⟨v1, k1, h⟩ := z0h h
 obtain ⟨v2, k2, h⟩ := z0h h
 obtain ⟨v3, k3, h⟩ := z0h h
 obtain ⟨v4, k4, h⟩ := z0h h
 refine adv (ok X) 9 [.s (z0y v1) (z0z v1), .s (z0d v2) (z0e v2), .o [0, 1, 2, 3, 4, 5, 6, 7], .s (z29 v3) (z2a v3), .bl (List.map z3a [v3.2]), .l (List.map z3a v4)] (pA (z13 (X := X) k1) (pA (z0g (X := X) k2) (pA (ih_parse_reader_arm _ _ k3) (pA (blc (e := z3a) (x := v3.2) (z7o _).symm (bl0 z3a)) (pA (apm (L := []) (M := [v3.2]) z9d k4) pT))))) (by kernel_rfl) ?_
 refine lp (ok X) (z38 (z0n n) (z0f n) (z0k n) (z10 n) (z0x n) (z0b n) (z0s n)) (fun (x1 : ((List z07) × Int × Int × Int × Int × Int × (List z27))) => ⟨36, 1, [(0, [xP 0 0]), (2, [xP 1 0]), (3, [xP 2 0])], [oB 39 (bs (z01 (z00.mk x1.1 x1.2.1 x1.2.2.1 x1.2.2.2.1 x1.2.2.2.2.1 x1.2.2.2.2.2.1))), oB 60 [.pv (.int .i64 0), .pv (.str (ByteArray.mk #[])), .pv (.str (ByteArray.mk #[])), .pv (.int .i64 0), .pv (.int .i64 0), .pv (.str (ByteArray.mk #[])), .emp, .pv (.int .i64 0), .pv (.int .i64 0), .pv (.int .i64 0), .pv (.str (ByteArray.mk #[])), .emp, .pv (.int .i64 0), .pv (.int .i64 0), .pv (.str (ByteArray.mk #[])), .emp, .emp, .emp, .emp], oB 60 [.pv (.int .i64 5), .pv (.str v1.2), .pv (.str (ByteArray.mk #[])), .pv (.int .i64 0), .pv (.int .i64 0), .pv (.str (ByteArray.mk #[])), .emp, .pv (.int .i64 0), .pv (.int .i64 0), .pv (.int .i64 0), .pv (.str (ByteArray.mk #[])), .emp, .pv (.int .i64 0), .pv (.int .i64 0), .pv (.str (ByteArray.mk #[])), .emp, .emp, .emp, .row 3], oR true 99 3 (List.map z3a x1.2.2.2.2.2.2)]⟩) (fun (j1 : ((List z07) × Int × Int × Int × Int × Int × (List z27))) => ⟨36, 1, [(0, [xP 0 0]), (2, [xP 1 0]), (3, [xP 2 0])], [oB 39 (bs (z01 (z00.mk j1.1 j1.2.1 j1.2.2.1 j1.2.2.2.1 j1.2.2.2.2.1 j1.2.2.2.2.2.1))), oB 60 [.pv (.int .i64 0), .pv (.str (ByteArray.mk #[])), .pv (.str (ByteArray.mk #[])), .pv (.int .i64 0), .pv (.int .i64 0), .pv (.str (ByteArray.mk #[])), .emp, .pv (.int .i64 0), .pv (.int .i64 0), .pv (.int .i64 0), .pv (.str (ByteArray.mk #[])), .emp, .pv (.int .i64 0), .pv (.int .i64 0), .pv (.str (ByteArray.mk #[])), .emp, .emp, .emp, .emp], oB 60 [.pv (.int .i64 5), .pv (.str v1.2), .pv (.str (ByteArray.mk #[])), .pv (.int .i64 0), .pv (.int .i64 0), .pv (.str (ByteArray.mk #[])), .emp, .pv (.int .i64 0), .pv (.int .i64 0), .pv (.int .i64 0), .pv (.str (ByteArray.mk #[])), .emp, .pv (.int .i64 0), .pv (.int .i64 0), .pv (.str (ByteArray.mk #[])), .emp, .emp, .emp, .row 3], oR true 99 3 (List.map z3a j1.2.2.2.2.2.2)]⟩) z8s (v3.1.f_l, v3.1.f_end, v3.1.f_e, v3.1.f_at, v3.1.f_deep, v3.1.f_in, v4) (fun _ => ⟨_, _, _, _, rfl⟩) h (by kernel_rfl) (fun x1 o h => ?_) (fun r' h => ?_) (fun j1 h => ?_)
 ·unfold z38 at h
  refine adv (ok X) 2 [] pT (by kernel_rfl) ?_
  refine jn (ok X) 1 (fun (j2 : Bool) => ⟨36, 1, [(0, [xP 0 0]), (2, [xP 1 0]), (3, [xP 2 0]), (25, [xB j2])], [oB 39 (bs (z01 (z00.mk x1.1 x1.2.1 x1.2.2.1 x1.2.2.2.1 x1.2.2.2.2.1 x1.2.2.2.2.2.1))), oB 60 [.pv (.int .i64 0), .pv (.str (ByteArray.mk #[])), .pv (.str (ByteArray.mk #[])), .pv (.int .i64 0), .pv (.int .i64 0), .pv (.str (ByteArray.mk #[])), .emp, .pv (.int .i64 0), .pv (.int .i64 0), .pv (.int .i64 0), .pv (.str (ByteArray.mk #[])), .emp, .pv (.int .i64 0), .pv (.int .i64 0), .pv (.str (ByteArray.mk #[])), .emp, .emp, .emp, .emp], oB 60 [.pv (.int .i64 5), .pv (.str v1.2), .pv (.str (ByteArray.mk #[])), .pv (.int .i64 0), .pv (.int .i64 0), .pv (.str (ByteArray.mk #[])), .emp, .pv (.int .i64 0), .pv (.int .i64 0), .pv (.int .i64 0), .pv (.str (ByteArray.mk #[])), .emp, .pv (.int .i64 0), .pv (.int .i64 0), .pv (.str (ByteArray.mk #[])), .emp, .emp, .emp, .row 3], oR true 99 3 (List.map z3a x1.2.2.2.2.2.2)]⟩) h (fun j2 h => ?_) (fun j2 h => ?_)
  ·rcases iteE h with ⟨k5, h⟩ | ⟨k5, h⟩
   ·obtain ⟨v5, k6, h⟩ := z0h h
    obtain rfl := retE h
    exact fin (ok X) 1 [.b true, .b true, .s (z2l v5) (z2m (z00.mk x1.1 x1.2.1 x1.2.2.1 x1.2.2.2.1 x1.2.2.2.2.1 x1.2.2.2.2.2.1) v5), .b true, .b true] (pA k5 (pA k5 (pA (z2u (X := X) k6) (pA k5 (pA k5 pT))))) (by kernel_rfl)
   ·obtain rfl := retE h
    exact fin (ok X) 1 (bF 4 []) (pR 4 k5 pT) (by kernel_rfl)
  ·rcases iteE h with ⟨k7, h⟩ | ⟨k7, h⟩
   ·obtain ⟨v6, k8, h⟩ := z0h h
    obtain ⟨v7, k9, h⟩ := z0h h
    obtain rfl := retE h
    exact fin (ok X) 5 [.b true, .o [0, 1, 2, 3, 4, 5, 6, 7], .s (z29 v6) (z2a v6), .bl (List.map z3a [v6.2]), .l (List.map z3a v7)] (pA k7 (pA (ih_parse_reader_arm _ _ k8) (pA (blc (e := z3a) (x := v6.2) (z7o _).symm (bl0 z3a)) (pA (apm (L := x1.2.2.2.2.2.2) (M := [v6.2]) z9d k9) pT)))) (by kernel_rfl)
   ·obtain rfl := retE h
    exact fin (ok X) 2 [.b false] (pA k7 pT) (by kernel_rfl)
 ·cases h
 ·obtain ⟨v8, k10, h⟩ := z0h h
  obtain rfl := retE h
  exact fin (ok X) 5 [.s (z0d v8) (z0e v8)] (pA (z0g (X := X) k10) pT) (by kernel_rfl)

theorem z8d {n : Nat} (ih_parse_reader_stmts : ∀ (a0 : z00) (r : (z00 × (List z04))), z0n n a0 = some r → Cs Tryd.prog (GX X) 18 [xP 0 0] [oB 39 (bs (z01 a0))] (z1j r) (z1k r)) (ih_parse_reader_stmt : ∀ (a0 : z00) (r : (z00 × z04 × Bool)), z0f n a0 = some r → Cs Tryd.prog (GX X) 27 [xP 0 0] [oB 39 (bs (z01 a0))] (z2b r) (z2c r)) (ih_parse_reader_conditional : ∀ (a0 : z00) (r : (z00 × z04)), z0k n a0 = some r → Cs Tryd.prog (GX X) 33 [xP 0 0] [oB 39 (bs (z01 a0))] (z1e r) (z1f r)) (ih_parse_reader_loop : ∀ (a0 : z00) (r : (z00 × z04)), z10 n a0 = some r → Cs Tryd.prog (GX X) 34 [xP 0 0] [oB 39 (bs (z01 a0))] (z2d r) (z2e r)) (ih_parse_reader_recv : ∀ (a0 : z00) (r : (z00 × z04)), z0x n a0 = some r → Cs Tryd.prog (GX X) 36 [xP 0 0] [oB 39 (bs (z01 a0))] (z24 r) (z25 r)) (ih_parse_reader_block : ∀ (a0 : z00) (r : (z00 × (List z04))), z0b n a0 = some r → Cs Tryd.prog (GX X) 51 [xP 0 0] [oB 39 (bs (z01 a0))] (z1l r) (z1m r)) (ih_parse_reader_arm : ∀ (a0 : z00) (r : (z00 × z27)), z0s n a0 = some r → Cs Tryd.prog (GX X) 53 [xP 0 0] [oB 39 (bs (z01 a0))] (z29 r) (z2a r)) (a0 : z00) (r : (z00 × (List z04))) (h : z0b (n + 1) a0 = some r) : Cs Tryd.prog (GX X) 51 [xP 0 0] [oB 39 (bs (z01 a0))] (z1l r) (z1m r) := by
 refine fnT (cx := cx X) Tryd.f51 Tryd.call51 Tryd.func51 (by kernel_rfl) ?_
 rw [z0b] at h
 refine adv (ok X) 4 [] pT (by kernel_rfl) ?_
 refine jn (ok X) 1 (fun (j1 : Bool) => ⟨36, 1, [(0, [xP 0 0]), (12, [xB j1])], [oB 39 (bs (z01 a0))]⟩) h (fun j1 h => ?_) (fun j1 h => ?_)
 ·obtain ⟨v1, k1, h⟩ := z0h h
  rcases iteE h with ⟨k2, h⟩ | ⟨k2, h⟩
  ·obtain rfl := retE h
   exact fin (ok X) 1 (.s (z2l v1) (z2m a0 v1) :: bT 6 []) (pA (z2u (X := X) k1) (pR 6 k2 pT)) (by kernel_rfl)
  ·obtain rfl := retE h
   exact fin (ok X) 1 (.s (z2l v1) (z2m a0 v1) :: bF 6 []) (pA (z2u (X := X) k1) (pR 6 k2 pT)) (by kernel_rfl)
 ·rcases iteE h with ⟨k3, h⟩ | ⟨k3, h⟩
  ·obtain ⟨v2, k4, h⟩ := z0h h
   obtain rfl := retE h
   exact fin (ok X) 6 [.b true, .s (z2n v2) (z2o v2)] (pA k3 (pA (z2v (X := X) k4) pT)) (by kernel_rfl)
  ·obtain ⟨v3, k5, h⟩ := z0h h
   obtain ⟨v4, k6, h⟩ := z0h h
   obtain ⟨v5, k7, h⟩ := z0h h
   obtain rfl := retE h
   exact fin (ok X) 15 [.b false, .s (z0d v3) (z0e v3), .s (z1j v4) (z1k v4), .s (z0d v5) (z0e v5)] (pA k3 (pA (z0g (X := X) k5) (pA (ih_parse_reader_stmts _ _ k6) (pA (z0g (X := X) k7) pT)))) (by kernel_rfl)

theorem z9h {n : Nat} (ih_parse_reader_stmts : ∀ (a0 : z00) (r : (z00 × (List z04))), z0n n a0 = some r → Cs Tryd.prog (GX X) 18 [xP 0 0] [oB 39 (bs (z01 a0))] (z1j r) (z1k r)) (ih_parse_reader_stmt : ∀ (a0 : z00) (r : (z00 × z04 × Bool)), z0f n a0 = some r → Cs Tryd.prog (GX X) 27 [xP 0 0] [oB 39 (bs (z01 a0))] (z2b r) (z2c r)) (ih_parse_reader_conditional : ∀ (a0 : z00) (r : (z00 × z04)), z0k n a0 = some r → Cs Tryd.prog (GX X) 33 [xP 0 0] [oB 39 (bs (z01 a0))] (z1e r) (z1f r)) (ih_parse_reader_loop : ∀ (a0 : z00) (r : (z00 × z04)), z10 n a0 = some r → Cs Tryd.prog (GX X) 34 [xP 0 0] [oB 39 (bs (z01 a0))] (z2d r) (z2e r)) (ih_parse_reader_recv : ∀ (a0 : z00) (r : (z00 × z04)), z0x n a0 = some r → Cs Tryd.prog (GX X) 36 [xP 0 0] [oB 39 (bs (z01 a0))] (z24 r) (z25 r)) (ih_parse_reader_block : ∀ (a0 : z00) (r : (z00 × (List z04))), z0b n a0 = some r → Cs Tryd.prog (GX X) 51 [xP 0 0] [oB 39 (bs (z01 a0))] (z1l r) (z1m r)) (ih_parse_reader_arm : ∀ (a0 : z00) (r : (z00 × z27)), z0s n a0 = some r → Cs Tryd.prog (GX X) 53 [xP 0 0] [oB 39 (bs (z01 a0))] (z29 r) (z2a r)) (a0 : z00) (r : (z00 × z27)) (h : z0s (n + 1) a0 = some r) : Cs Tryd.prog (GX X) 53 [xP 0 0] [oB 39 (bs (z01 a0))] (z29 r) (z2a r) := by
 refine fnT (cx := cx X) Tryd.f53 Tryd.call53 Tryd.func53 (by kernel_rfl) ?_
 rw [z0s] at h
 obtain ⟨v1, k1, h⟩ := z0h h
 obtain ⟨v2, k2, h⟩ := z0h h
 obtain ⟨v3, k3, h⟩ := z0h h
 obtain ⟨v4, k4, h⟩ := z0h h
 obtain ⟨v5, k5, h⟩ := z0h h
 obtain rfl := retE h
 exact fin (ok X) 15 [.s (z0y v1) (z0z v1), .s (z0d v2) (z0e v2), .s (z0y v3) (z0z v3), .s (z0d v4) (z0e v4), .s (z1l v5) (z1m v5)] (pA (z13 (X := X) k1) (pA (z0g (X := X) k2) (pA (z13 (X := X) k3) (pA (z0g (X := X) k4) (pA (ih_parse_reader_block _ _ k5) pT))))) (by kernel_rfl)

theorem z5o : ∀ n : Nat, (∀ (a0 : z00) (r : (z00 × (List z04))), z0n n a0 = some r → Cs Tryd.prog (GX X) 18 [xP 0 0] [oB 39 (bs (z01 a0))] (z1j r) (z1k r)) ∧ (∀ (a0 : z00) (r : (z00 × z04 × Bool)), z0f n a0 = some r → Cs Tryd.prog (GX X) 27 [xP 0 0] [oB 39 (bs (z01 a0))] (z2b r) (z2c r)) ∧ (∀ (a0 : z00) (r : (z00 × z04)), z0k n a0 = some r → Cs Tryd.prog (GX X) 33 [xP 0 0] [oB 39 (bs (z01 a0))] (z1e r) (z1f r)) ∧ (∀ (a0 : z00) (r : (z00 × z04)), z10 n a0 = some r → Cs Tryd.prog (GX X) 34 [xP 0 0] [oB 39 (bs (z01 a0))] (z2d r) (z2e r)) ∧ (∀ (a0 : z00) (r : (z00 × z04)), z0x n a0 = some r → Cs Tryd.prog (GX X) 36 [xP 0 0] [oB 39 (bs (z01 a0))] (z24 r) (z25 r)) ∧ (∀ (a0 : z00) (r : (z00 × (List z04))), z0b n a0 = some r → Cs Tryd.prog (GX X) 51 [xP 0 0] [oB 39 (bs (z01 a0))] (z1l r) (z1m r)) ∧ (∀ (a0 : z00) (r : (z00 × z27)), z0s n a0 = some r → Cs Tryd.prog (GX X) 53 [xP 0 0] [oB 39 (bs (z01 a0))] (z29 r) (z2a r))
 | 0 => ⟨(fun _ _ h => by rw [z0n] at h; cases h), (fun _ _ h => by rw [z0f] at h; cases h), (fun _ _ h => by rw [z0k] at h; cases h), (fun _ _ h => by rw [z10] at h; cases h), (fun _ _ h => by rw [z0x] at h; cases h), (fun _ _ h => by rw [z0b] at h; cases h), (fun _ _ h => by rw [z0s] at h; cases h)⟩
 | n + 1 => by
  have ih := z5o n
  exact ⟨z8c ih.1 ih.2.1 ih.2.2.1 ih.2.2.2.1 ih.2.2.2.2.1 ih.2.2.2.2.2.1 ih.2.2.2.2.2.2, z8y ih.1 ih.2.1 ih.2.2.1 ih.2.2.2.1 ih.2.2.2.2.1 ih.2.2.2.2.2.1 ih.2.2.2.2.2.2, z6p ih.1 ih.2.1 ih.2.2.1 ih.2.2.2.1 ih.2.2.2.2.1 ih.2.2.2.2.2.1 ih.2.2.2.2.2.2, z8z ih.1 ih.2.1 ih.2.2.1 ih.2.2.2.1 ih.2.2.2.2.1 ih.2.2.2.2.2.1 ih.2.2.2.2.2.2, z90 ih.1 ih.2.1 ih.2.2.1 ih.2.2.2.1 ih.2.2.2.2.1 ih.2.2.2.2.2.1 ih.2.2.2.2.2.2, z8d ih.1 ih.2.1 ih.2.2.1 ih.2.2.2.1 ih.2.2.2.2.1 ih.2.2.2.2.2.1 ih.2.2.2.2.2.2, z9h ih.1 ih.2.1 ih.2.2.1 ih.2.2.2.1 ih.2.2.2.2.1 ih.2.2.2.2.2.1 ih.2.2.2.2.2.2⟩

theorem z8e {a0 : z00} {r : (z00 × (List z04))} (h : z3m a0 = some r) : Cs Tryd.prog (GX X) 18 [xP 0 0] [oB 39 (bs (z01 a0))] (z1j r) (z1k r) := by
 obtain ⟨n, hn⟩ := unfE h
 exact (z5o n).1 _ _ hn

theorem z91 {a0 : z00} {r : (z00 × z3i)} (h : z3t a0 = some r) : Cs Tryd.prog (GX X) 10 [xP 0 0] [oB 39 (bs (z01 a0))] (z5f r) (z5g r) := by
 refine fnT (cx := cx X) Tryd.f10 Tryd.call10 Tryd.func10 (by kernel_rfl) ?_
 unfold z3t at h
 obtain ⟨v1, k1, h⟩ := z0h h
 obtain ⟨v2, k2, h⟩ := z0h h
 refine adv (ok X) 7 [.s (z0y v1) (z0z v1), .s (z0d v2) (z0e v2)] (pA (z13 (X := X) k1) (pA (z0g (X := X) k2) pT)) (by kernel_rfl) ?_
 refine lp (ok X) (z1v) (fun (x1 : ((List z07) × Int × Int × Int × Int × Int × (List ByteArray))) => ⟨26, 1, [(0, [xP 0 0]), (2, [xP 1 0]), (3, [xP 2 0])], [oB 39 (bs (z01 (z00.mk x1.1 x1.2.1 x1.2.2.1 x1.2.2.2.1 x1.2.2.2.2.1 x1.2.2.2.2.2.1))), oB 50 [.pv (.str (ByteArray.mk #[])), .emp, .emp], oB 50 [.pv (.str v1.2), .row 3, .emp], oR true 9 1 (List.map z4k x1.2.2.2.2.2.2)]⟩) (fun (j1 : ((List z07) × Int × Int × Int × Int × Int × (List ByteArray))) => ⟨26, 1, [(0, [xP 0 0]), (2, [xP 1 0]), (3, [xP 2 0])], [oB 39 (bs (z01 (z00.mk j1.1 j1.2.1 j1.2.2.1 j1.2.2.2.1 j1.2.2.2.2.1 j1.2.2.2.2.2.1))), oB 50 [.pv (.str (ByteArray.mk #[])), .emp, .emp], oB 50 [.pv (.str v1.2), .row 3, .emp], oR true 9 1 (List.map z4k j1.2.2.2.2.2.2)]⟩) z8t (v2.f_l, v2.f_end, v2.f_e, v2.f_at, v2.f_deep, v2.f_in, []) (fun _ => ⟨_, _, _, _, rfl⟩) h (by kernel_rfl) (fun x1 o h => ?_) (fun r' h => ?_) (fun j1 h => ?_)
 ·unfold z1v at h
  obtain ⟨v3, k3, h⟩ := z0h h
  refine adv (ok X) 3 [.s (z1a v3) (z1b v3)] (pA (z1h (X := X) k3) pT) (by kernel_rfl) ?_
  rcases iteE h with ⟨k4, h⟩ | ⟨k4, h⟩
  ·obtain ⟨v4, k5, h⟩ := z0h h
   obtain ⟨v5, k6, h⟩ := z0h h
   obtain ⟨v6, k7, h⟩ := z0h h
   obtain rfl := retE h
   exact fin (ok X) 7 [.b true, .o [0, 1, 2, 3, 4, 5, 6, 7], .s (z0y v4) (z0z v4), .l (List.map z4k v5), .s (z0d v6) (z0e v6)] (pA k4 (pA (z13 (X := X) k5) (pA (apm (L := x1.2.2.2.2.2.2) (M := [v4.2]) zax k6) (pA (z0g (X := X) k7) pT)))) (by kernel_rfl)
  ·obtain rfl := retE h
   exact fin (ok X) 2 [.b false] (pA k4 pT) (by kernel_rfl)
 ·cases h
 ·obtain ⟨v7, k8, h⟩ := z0h h
  obtain ⟨v8, k9, h⟩ := z0h h
  obtain rfl := retE h
  exact fin (ok X) 7 [.s (z1j v7) (z1k v7), .s (z0d v8) (z0e v8)] (pA (z8e (X := X) k8) (pA (z0g (X := X) k9) pT)) (by kernel_rfl)

theorem z43 {a0 : ByteArray} {r : (z2h × Int × Int)} (h : z33 a0 = some r) : Cv Tryd.prog (GX X) 4 [xS a0] (z34 r) := by
 refine Cs.toV (?_ : Cs Tryd.prog (GX X) 4 [xS a0] [] (z34 r) (z9g r)) (by kernel_rfl)
 refine fnT (cx := cx X) Tryd.f4 Tryd.call4 Tryd.func4 (by kernel_rfl) ?_
 unfold z33 at h
 obtain ⟨v1, k1, h⟩ := z0h h
 refine adv (ok X) 7 [.c (z9f v1)] (pA (zis (X := X) k1) pT) (by kernel_rfl) ?_
 rcases iteE h with ⟨k2, h⟩ | ⟨k2, h⟩
 ·obtain rfl := retE h
  exact fin (ok X) 4 [.b true] (pA k2 pT) (by kernel_rfl)
 ·refine adv (ok X) 7 [.b false] (pA k2 pT) (by kernel_rfl) ?_
  refine lp (ok X) (z3d) (fun (x1 : ((List z07) × Int × Int × Int × Int × Int × (List z2y))) => ⟨76, 0, [(2, [xP 0 0]), (8, [xP 1 0]), (9, [xP 2 0])], [oB 28 [.emp, .emp, .emp], oB 39 (bs (z01 (z00.mk x1.1 x1.2.1 x1.2.2.1 x1.2.2.2.1 x1.2.2.2.2.1 x1.2.2.2.2.2.1))), oB 28 [.row 3, .emp, .emp], oR true 42 6 (List.map z4f x1.2.2.2.2.2.2)]⟩) (fun (j1 : ((List z07) × Int × Int × Int × Int × Int × (List z2y))) => ⟨76, 0, [(2, [xP 0 0]), (8, [xP 1 0]), (9, [xP 2 0])], [oB 28 [.emp, .emp, .emp], oB 39 (bs (z01 (z00.mk j1.1 j1.2.1 j1.2.2.1 j1.2.2.2.1 j1.2.2.2.2.1 j1.2.2.2.2.2.1))), oB 28 [.row 3, .emp, .emp], oR true 42 6 (List.map z4f j1.2.2.2.2.2.2)]⟩) z7a (v1.1, (a0.size : Int), 0, 0, 0, 0, []) (fun _ => ⟨_, _, _, _, rfl⟩) h (by kernel_rfl) (fun x1 o h => ?_) (fun r' h => ?_) (fun j1 h => ?_)
  ·unfold z3d at h
   obtain ⟨v2, k3, h⟩ := z0h h
   refine adv (ok X) 3 [.s (z1a v2) (z1b v2)] (pA (z1h (X := X) k3) pT) (by kernel_rfl) ?_
   rcases iteE h with ⟨k4, h⟩ | ⟨k4, h⟩
   ·obtain ⟨v3, k5, h⟩ := z0h h
    obtain ⟨v4, k6, h⟩ := z0h h
    obtain rfl := retE h
    exact fin (ok X) 5 [.b true, .o [0, 1, 2, 3, 4, 5, 6, 7], .s (z4h v3) (z4i v3), .l (List.map z4f v4)] (pA k4 (pA (z7h (X := X) k5) (pA (apm (L := x1.2.2.2.2.2.2) (M := [v3.2]) zb6 k6) pT))) (by kernel_rfl)
   ·obtain rfl := retE h
    exact fin (ok X) 2 [.b false] (pA k4 pT) (by kernel_rfl)
  ·cases h
  ·refine adv (ok X) 1 [] pT (by kernel_rfl) ?_
   refine lp (ok X) (z3e) (fun (x2 : ((List z07) × Int × Int × Int × Int × Int × (List z3h))) => ⟨76, 0, [(2, [xP 0 0]), (8, [xP 1 0]), (9, [xP 2 0])], [oB 28 [.emp, .emp, .emp], oB 39 (bs (z01 (z00.mk x2.1 x2.2.1 x2.2.2.1 x2.2.2.2.1 x2.2.2.2.2.1 x2.2.2.2.2.2.1))), oB 28 [.row 3, .row 4, .emp], oR true 42 6 (List.map z4f j1.2.2.2.2.2.2), oR true 46 2 (List.map z5k x2.2.2.2.2.2.2)]⟩) (fun (j2 : ((List z07) × Int × Int × Int × Int × Int × (List z3h))) => ⟨76, 0, [(2, [xP 0 0]), (8, [xP 1 0]), (9, [xP 2 0])], [oB 28 [.emp, .emp, .emp], oB 39 (bs (z01 (z00.mk j2.1 j2.2.1 j2.2.2.1 j2.2.2.2.1 j2.2.2.2.2.1 j2.2.2.2.2.2.1))), oB 28 [.row 3, .row 4, .emp], oR true 42 6 (List.map z4f j1.2.2.2.2.2.2), oR true 46 2 (List.map z5k j2.2.2.2.2.2.2)]⟩) z7a (j1.1, j1.2.1, j1.2.2.1, j1.2.2.2.1, j1.2.2.2.2.1, j1.2.2.2.2.2.1, []) (fun _ => ⟨_, _, _, _, rfl⟩) h (by kernel_rfl) (fun x2 o h => ?_) (fun r' h => ?_) (fun j2 h => ?_)
   ·unfold z3e at h
    obtain ⟨v5, k7, h⟩ := z0h h
    refine adv (ok X) 3 [.s (z1a v5) (z1b v5)] (pA (z1h (X := X) k7) pT) (by kernel_rfl) ?_
    rcases iteE h with ⟨k8, h⟩ | ⟨k8, h⟩
    ·obtain ⟨v6, k9, h⟩ := z0h h
     obtain ⟨v7, k10, h⟩ := z0h h
     obtain rfl := retE h
     exact fin (ok X) 5 [.b true, .o [0, 1, 2, 3, 4, 5, 6, 7], .s (z5d v6) (z5e v6), .l (List.map z5k v7)] (pA k8 (pA (z8u (X := X) k9) (pA (apm (L := x2.2.2.2.2.2.2) (M := [v6.2]) zb8 k10) pT))) (by kernel_rfl)
    ·obtain rfl := retE h
     exact fin (ok X) 2 [.b false] (pA k8 pT) (by kernel_rfl)
   ·cases h
   ·refine adv (ok X) 1 [] pT (by kernel_rfl) ?_
    refine lp (ok X) (z2z) (fun (x3 : ((List z07) × Int × Int × Int × Int × Int × (List z3i))) => ⟨76, 0, [(2, [xP 0 0]), (8, [xP 1 0]), (9, [xP 2 0])], [oB 28 [.emp, .emp, .emp], oB 39 (bs (z01 (z00.mk x3.1 x3.2.1 x3.2.2.1 x3.2.2.2.1 x3.2.2.2.2.1 x3.2.2.2.2.2.1))), oB 28 [.row 3, .row 4, .row 5], oR true 42 6 (List.map z4f j1.2.2.2.2.2.2), oR true 46 2 (List.map z5k j2.2.2.2.2.2.2), oR true 50 3 (List.map z0v x3.2.2.2.2.2.2)]⟩) (fun (j3 : ((List z07) × Int × Int × Int × Int × Int × (List z3i))) => ⟨76, 0, [(2, [xP 0 0]), (8, [xP 1 0]), (9, [xP 2 0])], [oB 28 [.emp, .emp, .emp], oB 39 (bs (z01 (z00.mk j3.1 j3.2.1 j3.2.2.1 j3.2.2.2.1 j3.2.2.2.2.1 j3.2.2.2.2.2.1))), oB 28 [.row 3, .row 4, .row 5], oR true 42 6 (List.map z4f j1.2.2.2.2.2.2), oR true 46 2 (List.map z5k j2.2.2.2.2.2.2), oR true 50 3 (List.map z0v j3.2.2.2.2.2.2)]⟩) z7a (j2.1, j2.2.1, j2.2.2.1, j2.2.2.2.1, j2.2.2.2.2.1, j2.2.2.2.2.2.1, []) (fun _ => ⟨_, _, _, _, rfl⟩) h (by kernel_rfl) (fun x3 o h => ?_) (fun r' h => ?_) (fun j3 h => ?_)
    ·unfold z2z at h
     obtain ⟨v8, k11, h⟩ := z0h h
     refine adv (ok X) 3 [.s (z1a v8) (z1b v8)] (pA (z1h (X := X) k11) pT) (by kernel_rfl) ?_
     rcases iteE h with ⟨k12, h⟩ | ⟨k12, h⟩
     ·obtain ⟨v9, k13, h⟩ := z0h h
      obtain ⟨v10, k14, h⟩ := z0h h
      obtain rfl := retE h
      exact fin (ok X) 5 [.b true, .o [0, 1, 2, 3, 4, 5, 6, 7], .s (z5f v9) (z5g v9), .l (List.map z0v v10)] (pA k12 (pA (z91 (X := X) k13) (pA (apm (L := x3.2.2.2.2.2.2) (M := [v9.2]) zb9 k14) pT))) (by kernel_rfl)
     ·obtain rfl := retE h
      exact fin (ok X) 2 [.b false] (pA k12 pT) (by kernel_rfl)
    ·cases h
    ·refine adv (ok X) 3 [.i (j3.1.length : Int)] (pA (lm z14 j3.1) pT) (by kernel_rfl) ?_
     rcases iteE h with ⟨k15, h⟩ | ⟨k15, h⟩
     ·obtain ⟨v11, k16, h⟩ := z0h h
      refine adv (ok X) 5 [.b true, .s (z2n v11) (z2o v11)] (pA k15 (pA (z2v (X := X) k16) pT)) (by kernel_rfl) ?_
      rcases iteE h with ⟨k17, h⟩ | ⟨k17, h⟩
      ·obtain rfl := retE h
       exact fin (ok X) 4 [.b true, .o [0, 1, 2, 3, 4, 5, 6, 7, 8, 9, 10, 11]] (pA k17 pT) (by kernel_rfl)
      ·obtain rfl := retE h
       exact fin (ok X) 5 [.b false] (pA k17 pT) (by kernel_rfl)
     ·refine adv (ok X) 5 [.b false] (pA k15 pT) (by kernel_rfl) ?_
      rcases iteE h with ⟨k18, h⟩ | ⟨k18, h⟩
      ·obtain rfl := retE h
       exact fin (ok X) 4 [.b true, .o [0, 1, 2, 3, 4, 5, 6, 7, 8, 9, 10, 11]] (pA k18 pT) (by kernel_rfl)
      ·obtain rfl := retE h
       exact fin (ok X) 5 [.b false] (pA k18 pT) (by kernel_rfl)
end Go.Proofs.YtokjbpmjdcbogaaDoor.Abs

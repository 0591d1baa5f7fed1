/- Gw: the functions are these. -/
import Derived.Test.YtnfjgjomokloaaaDoorGwF
namespace Go.Proofs.YtnfjgjomokloaaaDoor.Abs
open Go Go.RowKit
set_option linter.unusedVariables false
set_option maxRecDepth 100000
set_option maxHeartbeats 4000000
variable {X : EV}
theorem znw {a0 : Int} {r : ByteArray} (h : itoa a0 = some r) : Cv Tryd.prog (GX X) 31 [xI a0] (zl1 r) := zip h
theorem zkb {a0 : ByteArray} {r : Int × Int} (h : zab a0 = some r) : Cv Tryd.prog (GX X) 28 [xS a0] (zfb r) := ze3 h
theorem ziq {a0 : ByteArray} {a1 : Int} {r : Int} (h : ze1 a0 a1 = some r) : Cv Tryd.prog (GX X) 36 [xS a0, .c (.pv (.int .u8 a1))] (ze0 r) := zgp h
theorem z6q {a0 : Int} {r : Bool} (h : z5a a0 = some r) : Cv Tryd.prog (GX X) 24 [.c (.pv (.int .u8 a0))] (z4z r) := by
 refine Cs.toV (?_ : Cs Tryd.prog (GX X) 24 [.c (.pv (.int .u8 a0))] [] (z4z r) (zct r)) (by kernel_rfl)
 refine fnT (cx := cx X) Tryd.f24 Tryd.call24 Tryd.func24 (by kernel_rfl) ?_
 unfold z5a at h
 rcases iteE h with ⟨k1, h⟩ | ⟨k1, h⟩
 ·obtain rfl := retE h
  exact fin (ok X) 5 (bT 3 []) (pR 3 k1 pT) (by kernel_rfl)
 ·obtain rfl := retE h
  exact fin (ok X) 5 (bF 3 []) (pR 3 k1 pT) (by kernel_rfl)

theorem zai {a0 : Int} {r : Bool} (h : z5z a0 = some r) : Cv Tryd.prog (GX X) 27 [.c (.pv (.int .u8 a0))] (z69 r) := by
 refine Cs.toV (?_ : Cs Tryd.prog (GX X) 27 [.c (.pv (.int .u8 a0))] [] (z69 r) (zdy r)) (by kernel_rfl)
 refine fnT (cx := cx X) Tryd.f27 Tryd.call27 Tryd.func27 (by kernel_rfl) ?_
 unfold z5z at h
 rcases iteE h with ⟨k1, h⟩ | ⟨k1, h⟩
 ·obtain rfl := retE h
  exact fin (ok X) 5 (bT 3 []) (pR 3 k1 pT) (by kernel_rfl)
 ·obtain rfl := retE h
  exact fin (ok X) 5 (bF 3 []) (pR 3 k1 pT) (by kernel_rfl)

theorem zcw {a0 : ByteArray} {r : Int} (h : z8q a0 = some r) : Cv Tryd.prog (GX X) 26 [xS a0] (z6n r) := by
 refine Cs.toV (?_ : Cs Tryd.prog (GX X) 26 [xS a0] [] (z6n r) (zcu r)) (by kernel_rfl)
 refine fnT (cx := cx X) Tryd.f26 Tryd.call26 Tryd.func26 (by kernel_rfl) ?_
 unfold z8q at h
 refine adv (ok X) 5 [] pT (by kernel_rfl) ?_
 refine lp (ok X) (z4o a0) (fun (x1 : Int) => ⟨23, 0, [(0, [xS a0]), (3, [xI x1])], []⟩) (fun (j1 : Int) => ⟨23, 0, [(3, [xI j1])], []⟩) zil 0 (fun _ => ⟨_, _, _, _, rfl⟩) h (by kernel_rfl) (fun x1 o h => ?_) (fun r' h => ?_) (fun j1 h => ?_)
 ·unfold z4o at h
  refine adv (ok X) 2 [] pT (by kernel_rfl) ?_
  refine jn (ok X) 1 (fun (j2 : Bool) => ⟨23, 0, [(0, [xS a0]), (3, [xI x1]), (19, [xB j2])], []⟩) h (fun j2 h => ?_) (fun j2 h => ?_)
  ·rcases iteE h with ⟨k1, h⟩ | ⟨k1, h⟩
   ·obtain ⟨v1, k2, h⟩ := z08 h
    obtain ⟨v2, k3, h⟩ := z08 h
    rcases iteE h with ⟨k4, h⟩ | ⟨k4, h⟩
    ·obtain rfl := retE h
     exact fin (ok X) 1 (bT 3 (.i v1 :: .b true :: .c (z4z v2) :: bT 8 [])) (pR 3 k1 (pA k2 (pA k1 (pA (z6q (X := X) k3) (pA k1 (pR 4 k4 (pA k1 (pA k4 (pA k1 pT))))))))) (by kernel_rfl)
    ·obtain ⟨v3, k5, h⟩ := z08 h
     obtain ⟨v4, k6, h⟩ := z08 h
     obtain rfl := retE h
     exact fin (ok X) 1 (bT 3 (.i v1 :: .b true :: .c (z4z v2) :: .b true :: bF 3 [.i v3, .b false, .c (z69 v4), .b true, .b false, .b true])) (pR 3 k1 (pA k2 (pA k1 (pA (z6q (X := X) k3) (pA k1 (pR 3 k4 (pA k5 (pA k4 (pA (zai (X := X) k6) (pA k1 (pA k4 (pA k1 pT)))))))))))) (by kernel_rfl)
   ·obtain rfl := retE h
    exact fin (ok X) 1 (bF 7 []) (pR 7 k1 pT) (by kernel_rfl)
  ·rcases iteE h with ⟨k7, h⟩ | ⟨k7, h⟩
   ·obtain rfl := retE h
    exact fin (ok X) 5 [.b true] (pA k7 pT) (by kernel_rfl)
   ·obtain rfl := retE h
    exact fin (ok X) 2 [.b false] (pA k7 pT) (by kernel_rfl)
 ·cases h
 ·obtain rfl := retE h
  exact fin (ok X) 3 [] pT (by kernel_rfl)

theorem zav {a0 : ByteArray} {r : Bool} (h : z50 a0 = some r) : Cv Tryd.prog (GX X) 33 [xS a0] (z5v r) := by
 refine Cs.toV (?_ : Cs Tryd.prog (GX X) 33 [xS a0] [] (z5v r) (zap r)) (by kernel_rfl)
 refine fnT (cx := cx X) Tryd.f33 Tryd.call33 Tryd.func33 (by kernel_rfl) ?_
 unfold z50 at h
 rcases iteE h with ⟨k1, h⟩ | ⟨k1, h⟩
 ·obtain rfl := retE h
  exact fin (ok X) 15 [.b true, .b true] (pA k1 (pA k1 pT)) (by kernel_rfl)
 ·refine adv (ok X) 12 [.b false] (pA k1 pT) (by kernel_rfl) ?_
  rcases iteE h with ⟨k2, h⟩ | ⟨k2, h⟩
  ·obtain rfl := retE h
   exact fin (ok X) 6 [.b true, .b true] (pA k2 (pA k2 pT)) (by kernel_rfl)
  ·refine adv (ok X) 3 [.b false] (pA k2 pT) (by kernel_rfl) ?_
   rcases iteE h with ⟨k3, h⟩ | ⟨k3, h⟩
   ·obtain rfl := retE h
    exact fin (ok X) 6 [.b true, .b true] (pA k3 (pA k3 pT)) (by kernel_rfl)
   ·refine adv (ok X) 3 [.b false] (pA k3 pT) (by kernel_rfl) ?_
    rcases iteE h with ⟨k4, h⟩ | ⟨k4, h⟩
    ·obtain rfl := retE h
     exact fin (ok X) 6 [.b true, .b true] (pA k4 (pA k4 pT)) (by kernel_rfl)
    ·refine adv (ok X) 3 [.b false] (pA k4 pT) (by kernel_rfl) ?_
     rcases iteE h with ⟨k5, h⟩ | ⟨k5, h⟩
     ·obtain rfl := retE h
      exact fin (ok X) 6 [.b true, .b true] (pA k5 (pA k5 pT)) (by kernel_rfl)
     ·refine adv (ok X) 3 [.b false] (pA k5 pT) (by kernel_rfl) ?_
      rcases iteE h with ⟨k6, h⟩ | ⟨k6, h⟩
      ·obtain rfl := retE h
       exact fin (ok X) 6 [.b true, .b true] (pA k6 (pA k6 pT)) (by kernel_rfl)
      ·refine adv (ok X) 3 [.b false] (pA k6 pT) (by kernel_rfl) ?_
       rcases iteE h with ⟨k7, h⟩ | ⟨k7, h⟩
       ·obtain rfl := retE h
        exact fin (ok X) 6 [.b true, .b true] (pA k7 (pA k7 pT)) (by kernel_rfl)
       ·refine adv (ok X) 2 [.b false] (pA k7 pT) (by kernel_rfl) ?_
        rcases iteE h with ⟨k8, h⟩ | ⟨k8, h⟩
        ·obtain rfl := retE h
         exact fin (ok X) 4 [.b true] (pA k8 pT) (by kernel_rfl)
        ·refine adv (ok X) 4 [.b false] (pA k8 pT) (by kernel_rfl) ?_
         rcases iteE h with ⟨k9, h⟩ | ⟨k9, h⟩
         ·obtain rfl := retE h
          exact fin (ok X) 6 [.b true, .b true] (pA k9 (pA k9 pT)) (by kernel_rfl)
         ·refine adv (ok X) 3 [.b false] (pA k9 pT) (by kernel_rfl) ?_
          rcases iteE h with ⟨k10, h⟩ | ⟨k10, h⟩
          ·obtain rfl := retE h
           exact fin (ok X) 6 [.b true, .b true] (pA k10 (pA k10 pT)) (by kernel_rfl)
          ·refine adv (ok X) 3 [.b false] (pA k10 pT) (by kernel_rfl) ?_
           rcases iteE h with ⟨k11, h⟩ | ⟨k11, h⟩
           ·obtain rfl := retE h
            exact fin (ok X) 6 [.b true, .b true] (pA k11 (pA k11 pT)) (by kernel_rfl)
           ·refine adv (ok X) 3 [.b false] (pA k11 pT) (by kernel_rfl) ?_
            rcases iteE h with ⟨k12, h⟩ | ⟨k12, h⟩
            ·obtain rfl := retE h
             exact fin (ok X) 6 [.b true, .b true] (pA k12 (pA k12 pT)) (by kernel_rfl)
            ·refine adv (ok X) 3 [.b false] (pA k12 pT) (by kernel_rfl) ?_
             rcases iteE h with ⟨k13, h⟩ | ⟨k13, h⟩
             ·obtain rfl := retE h
              exact fin (ok X) 6 [.b true, .b true] (pA k13 (pA k13 pT)) (by kernel_rfl)
             ·refine adv (ok X) 3 [.b false] (pA k13 pT) (by kernel_rfl) ?_
              rcases iteE h with ⟨k14, h⟩ | ⟨k14, h⟩
              ·obtain rfl := retE h
               exact fin (ok X) 6 [.b true, .b true] (pA k14 (pA k14 pT)) (by kernel_rfl)
              ·refine adv (ok X) 3 [.b false] (pA k14 pT) (by kernel_rfl) ?_
               rcases iteE h with ⟨k15, h⟩ | ⟨k15, h⟩
               ·obtain rfl := retE h
                exact fin (ok X) 6 [.b true, .b true] (pA k15 (pA k15 pT)) (by kernel_rfl)
               ·refine adv (ok X) 2 [.b false] (pA k15 pT) (by kernel_rfl) ?_
                rcases iteE h with ⟨k16, h⟩ | ⟨k16, h⟩
                ·obtain rfl := retE h
                 exact fin (ok X) 4 [.b true] (pA k16 pT) (by kernel_rfl)
                ·obtain rfl := retE h
                 exact fin (ok X) 6 [.b false] (pA k16 pT) (by kernel_rfl)

theorem ze4 {a0 : ByteArray} {r : (z18 × Int)} (h : z60 a0 = some r) : Cv Tryd.prog (GX X) 25 [xS a0] (z7k r) := by
 refine Cs.toV (?_ : Cs Tryd.prog (GX X) 25 [xS a0] [] (z7k r) (zdz r)) (by kernel_rfl)
 refine fnT (cx := cx X) Tryd.f25 Tryd.call25 Tryd.func25 (by kernel_rfl) ?_
 unfold z60 at h
 rcases iteE h with ⟨k1, h⟩ | ⟨k1, h⟩
 ·obtain rfl := retE h
  exact fin (ok X) 10 [.b true] (pA k1 pT) (by kernel_rfl)
 ·obtain ⟨v1, k2, h⟩ := z08 h
  refine adv (ok X) 9 [.b false, .c (z5v v1)] (pA k1 (pA (zav (X := X) k2) pT)) (by kernel_rfl) ?_
  rcases iteE h with ⟨k3, h⟩ | ⟨k3, h⟩
  ·obtain rfl := retE h
   exact fin (ok X) 4 [.b true] (pA k3 pT) (by kernel_rfl)
  ·obtain rfl := retE h
   exact fin (ok X) 6 [.b false] (pA k3 pT) (by kernel_rfl)

theorem zgq {a0 : ByteArray} {r : Int} (h : z7z a0 = some r) : Cv Tryd.prog (GX X) 29 [xS a0] (z8r r) := by
 refine Cs.toV (?_ : Cs Tryd.prog (GX X) 29 [xS a0] [] (z8r r) (zgk r)) (by kernel_rfl)
 refine fnT (cx := cx X) Tryd.f29 Tryd.call29 Tryd.func29 (by kernel_rfl) ?_
 unfold z7z at h
 refine adv (ok X) 4 [] pT (by kernel_rfl) ?_
 refine jn (ok X) 1 (fun (j1 : Bool) => ⟨21, 0, [(0, [xS a0]), (16, [xB j1])], []⟩) h (fun j1 h => ?_) (fun j1 h => ?_)
 ·rcases iteE h with ⟨k1, h⟩ | ⟨k1, h⟩
  ·obtain ⟨v1, k2, h⟩ := z08 h
   rcases iteE h with ⟨k3, h⟩ | ⟨k3, h⟩
   ·obtain ⟨v2, k4, h⟩ := z08 h
    obtain ⟨v3, k5, h⟩ := z08 h
    obtain rfl := retE h
    exact fin (ok X) 1 (.b true :: .b true :: .i v1 :: bT 4 [.i v2, .b true, .c (ze0 v3), .b true, .b true]) (pA k1 (pA k1 (pA k2 (pA k1 (pA k1 (pA k3 (pA k3 (pA k4 (pA k3 (pA (ziq (X := X) k5) (pA k3 (pA k3 pT)))))))))))) (by kernel_rfl)
   ·obtain rfl := retE h
    exact fin (ok X) 1 (.b true :: .b true :: .i v1 :: .b true :: .b true :: bF 5 []) (pA k1 (pA k1 (pA k2 (pA k1 (pA k1 (pR 5 k3 pT)))))) (by kernel_rfl)
  ·obtain rfl := retE h
   exact fin (ok X) 1 (bF 9 []) (pR 4 k1 (pR 5 ff pT)) (by kernel_rfl)
 ·rcases iteE h with ⟨k6, h⟩ | ⟨k6, h⟩
  ·obtain rfl := retE h
   exact fin (ok X) 4 [.b true] (pA k6 pT) (by kernel_rfl)
  ·obtain ⟨v4, k7, h⟩ := z08 h
   obtain ⟨v5, k8, h⟩ := z08 h
   refine adv (ok X) 5 [.b false, .i v4, .c (ze0 v5)] (pA k6 (pA k7 (pA (ziq (X := X) k8) pT))) (by kernel_rfl) ?_
   rcases iteE h with ⟨k9, h⟩ | ⟨k9, h⟩
   ·obtain rfl := retE h
    exact fin (ok X) 4 [.b true] (pA k9 pT) (by kernel_rfl)
   ·obtain rfl := retE h
    exact fin (ok X) 5 [.b false] (pA k9 pT) (by kernel_rfl)

theorem zgr {a0 : ByteArray} {r : (z18 × Int)} (h : z6a a0 = some r) : Cv Tryd.prog (GX X) 14 [xS a0] (z8s r) := by
 refine Cs.toV (?_ : Cs Tryd.prog (GX X) 14 [xS a0] [] (z8s r) (zgl r)) (by kernel_rfl)
 refine fnT (cx := cx X) Tryd.f14 Tryd.call14 Tryd.func14 (by kernel_rfl) ?_
 unfold z6a at h
 obtain ⟨v1, k1, h⟩ := z08 h
 obtain ⟨v2, k2, h⟩ := z08 h
 refine adv (ok X) 6 [.i v1, .c (z4z v2)] (pA k1 (pA (z6q (X := X) k2) pT)) (by kernel_rfl) ?_
 rcases iteE h with ⟨k3, h⟩ | ⟨k3, h⟩
 ·obtain ⟨v3, k4, h⟩ := z08 h
  obtain ⟨v4, k5, h⟩ := z08 h
  obtain ⟨v5, k6, h⟩ := z08 h
  obtain rfl := retE h
  exact fin (ok X) 4 [.b true, .c (z6n v3), .x [xS v4], .c (z7k v5)] (pA k3 (pA (zcw (X := X) k4) (pA k5 (pA (ze4 (X := X) k6) pT)))) (by kernel_rfl)
 ·obtain ⟨v6, k7, h⟩ := z08 h
  obtain ⟨v7, k8, h⟩ := z08 h
  refine adv (ok X) 3 [.b false, .i v6, .c (z69 v7)] (pA k3 (pA k7 (pA (zai (X := X) k8) pT))) (by kernel_rfl) ?_
  rcases iteE h with ⟨k9, h⟩ | ⟨k9, h⟩
  ·obtain ⟨v8, k10, h⟩ := z08 h
   obtain ⟨v9, k11, h⟩ := z08 h
   obtain ⟨v10, k12, h⟩ := z08 h
   obtain rfl := retE h
   exact fin (ok X) 8 [.b true, .c (z6n v8), .x [xS v9], .c (zfb v10)] (pA k9 (pA (zcw (X := X) k10) (pA k11 (pA (zkb (X := X) k12) pT)))) (by kernel_rfl)
  ·obtain ⟨v11, k13, h⟩ := z08 h
   refine adv (ok X) 8 [.b false, .c (z8r v11)] (pA k9 (pA (zgq (X := X) k13) pT)) (by kernel_rfl) ?_
   rcases iteE h with ⟨k14, h⟩ | ⟨k14, h⟩
   ·obtain rfl := retE h
    exact fin (ok X) 4 [.b true] (pA k14 pT) (by kernel_rfl)
   ·obtain ⟨v12, k15, h⟩ := z08 h
    obtain rfl := retE h
    exact fin (ok X) 5 [.b false, .x [xS v12]] (pA k14 (pA k15 pT)) (by kernel_rfl)

theorem z33 {a0 : ByteArray} {r : ((List z18) × Int × Int)} (h : z39 a0 = some r) : Cv Tryd.prog (GX X) 8 [xS a0] (z2k r) := by
 refine Cs.toV (?_ : Cs Tryd.prog (GX X) 8 [xS a0] [] (z2k r) (zcv r)) (by kernel_rfl)
 refine fnT (cx := cx X) Tryd.f8 Tryd.call8 Tryd.func8 (by kernel_rfl) ?_
 unfold z39 at h
 refine adv (ok X) 7 [] pT (by kernel_rfl) ?_
 refine lp (ok X) (z4p a0) (fun (x1 : (Int × (List z18))) => ⟨53, 0, [(0, [xS a0]), (5, [xR 0]), (6, [xI x1.1])], [oR true 64 4 (List.map z01 x1.2)]⟩) (fun (j1 : (List z18)) => ⟨53, 0, [(0, [xS a0]), (5, [xR 0])], [oR true 64 4 (List.map z01 j1)]⟩) zim (0, []) (fun _ => ⟨_, _, _, _, rfl⟩) h (by kernel_rfl) (fun x1 o h => ?_) (fun r' h => ?_) (fun j1 h => ?_)
 ·unfold z4p at h
  rcases iteE h with ⟨k1, h⟩ | ⟨k1, h⟩
  ·refine adv (ok X) 8 [.b true] (pA k1 pT) (by kernel_rfl) ?_
   refine jn (ok X) 1 (fun (j2 : Bool) => ⟨53, 0, [(0, [xS a0]), (5, [xR 0]), (6, [xI x1.1]), (22, [xB j2])], [oR true 64 4 (List.map z01 x1.2)]⟩) h (fun j2 h => ?_) (fun j2 h => ?_)
   ·obtain ⟨v1, k2, h⟩ := z08 h
    rcases iteE h with ⟨k3, h⟩ | ⟨k3, h⟩
    ·obtain rfl := retE h
     exact fin (ok X) 1 (.i v1 :: bT 5 []) (pA k2 (pR 5 k3 pT)) (by kernel_rfl)
    ·obtain ⟨v2, k4, h⟩ := z08 h
     obtain rfl := retE h
     exact fin (ok X) 1 (.i v1 :: bF 3 [.i v2, .b false, .b false]) (pA k2 (pR 3 k3 (pA k4 (pA k3 (pA k3 pT))))) (by kernel_rfl)
   ·rcases iteE h with ⟨k5, h⟩ | ⟨k5, h⟩
    ·obtain rfl := retE h
     exact fin (ok X) 4 [.b true] (pA k5 pT) (by kernel_rfl)
    ·obtain ⟨v3, k6, h⟩ := z08 h
     obtain ⟨v4, k7, h⟩ := z08 h
     refine adv (ok X) 7 [.b false, .x [xS v3], .c (z8s v4)] (pA k5 (pA k6 (pA (zgr (X := X) k7) pT))) (by kernel_rfl) ?_
     rcases iteE h with ⟨k8, h⟩ | ⟨k8, h⟩
     ·obtain rfl := retE h
      exact fin (ok X) 4 [.b true] (pA k8 pT) (by kernel_rfl)
     ·obtain ⟨v5, k9, h⟩ := z08 h
      obtain rfl := retE h
      exact fin (ok X) 8 [.b false, .l (List.map z01 v5)] (pA k8 (pA (apm (L := x1.2) (M := [(z18.mk v4.1.Kind v4.1.Text v4.1.Num x1.1)]) zag k9) pT)) (by kernel_rfl)
  ·obtain rfl := retE h
   exact fin (ok X) 5 [.b false] (pA k1 pT) (by kernel_rfl)
 ·obtain rfl := retE h
  kernel_rfl
 ·refine adv (ok X) 3 [.i (j1.length : Int)] (pA (lm z01 j1) pT) (by kernel_rfl) ?_
  rcases iteE h with ⟨k10, h⟩ | ⟨k10, h⟩
  ·obtain rfl := retE h
   exact fin (ok X) 4 [.b true] (pA k10 pT) (by kernel_rfl)
  ·obtain rfl := retE h
   exact fin (ok X) 5 [.b false] (pA k10 pT) (by kernel_rfl)

theorem zgs {n : Nat} (ih_l02_Expr : ∀ (a0 : z02) (r : z09), z47 n a0 = some r → Cv Tryd.prog (GX X) 22 [.agg (bs (z4f a0))] (z3h r)) (a0 : z02) (r : z09) (h : z47 (n + 1) a0 = some r) : Cv Tryd.prog (GX X) 22 [.agg (bs (z4f a0))] (z3h r) := by
 refine Cs.toV (?_ : Cs Tryd.prog (GX X) 22 [.agg (bs (z4f a0))] [] (z3h r) (zbb r)) (by kernel_rfl)
 refine fnT (cx := cx X) Tryd.f22 Tryd.call22 Tryd.func22 (by kernel_rfl) ?_
 rw [z47] at h
 refine adv (ok X) 7 [] pT (by kernel_rfl) ?_
 refine lp (ok X) (z4q (z47 n) a0) (fun (x1 : (Int × (List z09))) => ⟨29, 0, [(1, [xP 0 0]), (2, [xP 1 0]), (3, [xR 2]), (4, [xI x1.1])], [oB 34 (bs (z4f a0)), oB 102 [.pv (.int .i64 0), .pv (.int .i64 0), .pv (.str (ByteArray.mk #[])), .emp], oR true 102 4 (List.map z10 x1.2)]⟩) (fun (j1 : (List z09)) => ⟨29, 0, [(1, [xP 0 0]), (2, [xP 1 0]), (3, [xR 2])], [oB 34 (bs (z4f a0)), oB 102 [.pv (.int .i64 0), .pv (.int .i64 0), .pv (.str (ByteArray.mk #[])), .emp], oR true 102 4 (List.map z10 j1)]⟩) zgm (0, []) (fun _ => ⟨_, _, _, _, rfl⟩) h (by kernel_rfl) (fun x1 o h => ?_) (fun r' h => ?_) (fun j1 h => ?_)
 ·unfold z4q at h
  refine adv (ok X) 3 [.i (a0.Kids.length : Int)] (pA (lm z1e a0.Kids) pT) (by kernel_rfl) ?_
  rcases iteE h with ⟨k1, h⟩ | ⟨k1, h⟩
  ·obtain ⟨v1, k2, h⟩ := z08 h
   obtain ⟨v2, k3, h⟩ := z08 h
   obtain ⟨v3, k4, h⟩ := z08 h
   obtain rfl := retE h
   exact fin (ok X) 7 [.b true, .e (z4f v1), .c (z3h v2), .bl (List.map z10 [v2]), .l (List.map z10 v3)] (pA k1 (pA (ixr z4l k2) (pA (ih_l02_Expr _ _ k3) (pA (blc (e := z10) (x := v2) (z3t _).symm (bl0 z10)) (pA (apm (L := x1.2) (M := [v2]) zan k4) pT))))) (by kernel_rfl)
  ·obtain rfl := retE h
   exact fin (ok X) 2 [.b false] (pA k1 pT) (by kernel_rfl)
 ·cases h
 ·obtain rfl := retE h
  exact fin (ok X) 3 [] pT (by kernel_rfl)

theorem z9a : ∀ n : Nat, (∀ (a0 : z02) (r : z09), z47 n a0 = some r → Cv Tryd.prog (GX X) 22 [.agg (bs (z4f a0))] (z3h r))
 | 0 => (fun _ _ h => by rw [z47] at h; cases h)
 | n + 1 => by
  have ih := z9a n
  exact zgs ih

theorem z8x {a0 : z02} {r : z09} (h : z81 a0 = some r) : Cv Tryd.prog (GX X) 22 [.agg (bs (z4f a0))] (z3h r) := by
 obtain ⟨n, hn⟩ := unfE h
 exact (z9a n) _ _ hn

theorem zgt {a0 : z0x} {r : z31} (h : z82 a0 = some r) : Cv Tryd.prog (GX X) 23 [.agg (bs (zb9 a0))] (z8t r) := by
 refine Cs.toV (?_ : Cs Tryd.prog (GX X) 23 [.agg (bs (zb9 a0))] [] (z8t r) (zgn r)) (by kernel_rfl)
 refine fnT (cx := cx X) Tryd.f23 Tryd.call23 Tryd.func23 (by kernel_rfl) ?_
 unfold z82 at h
 obtain ⟨v1, k1, h⟩ := z08 h
 obtain ⟨v2, k2, h⟩ := z08 h
 obtain rfl := retE h
 exact fin (ok X) 5 [.o [0, 1, 2, 3, 4, 5, 6, 7, 8, 9], .c (z3h v1), .c (z3h v2)] (pA (z8x (X := X) k1) (pA (z8x (X := X) k2) pT)) (by kernel_rfl)

theorem ze5 {n : Nat} (ih_l02_Stmts : ∀ (a0 : (List z0b)) (r : (List z07)), z2z n a0 = some r → Cv Tryd.prog (GX X) 13 [xL (List.map z1f a0)] (z34 r)) (a0 : (List z0b)) (r : (List z07)) (h : z2z (n + 1) a0 = some r) : Cv Tryd.prog (GX X) 13 [xL (List.map z1f a0)] (z34 r) := by
 refine Cs.toV (?_ : Cs Tryd.prog (GX X) 13 [xL (List.map z1f a0)] [] (z34 r) (zac r)) (by kernel_rfl)
 refine fnT (cx := cx X) Tryd.f13 Tryd.call13 Tryd.func13 (by kernel_rfl) ?_
 rw [z2z] at h
 refine adv (ok X) 7 [] pT (by kernel_rfl) ?_
 refine lp (ok X) (z4h (z2z n) a0) (fun (x1 : (Int × (List z07))) => ⟨74, 0, [(0, [xL (List.map z1f a0)]), (3, [xR 0]), (4, [xI x1.1])], [oR true 109 19 (List.map z0r x1.2)]⟩) (fun (j1 : (List z07)) => ⟨74, 0, [(3, [xR 0])], [oR true 109 19 (List.map z0r j1)]⟩) zad (0, []) (fun _ => ⟨_, _, _, _, rfl⟩) h (by kernel_rfl) (fun x1 o h => ?_) (fun r' h => ?_) (fun j1 h => ?_)
 ·unfold z4h at h
  refine adv (ok X) 3 [.i (a0.length : Int)] (pA (lm z1f a0) pT) (by kernel_rfl) ?_
  rcases iteE h with ⟨k1, h⟩ | ⟨k1, h⟩
  ·obtain ⟨v1, k2, h⟩ := z08 h
   obtain ⟨v2, k3, h⟩ := z08 h
   obtain ⟨v3, k4, h⟩ := z08 h
   obtain ⟨v4, k5, h⟩ := z08 h
   obtain ⟨v5, k6, h⟩ := z08 h
   refine adv (ok X) 11 [.b true, .e (zba v1), .o [0, 1, 2, 3, 4, 5, 6, 7, 8, 9, 10, 11, 12, 13, 14, 15, 16, 17, 18, 19, 20], .c (z3h v2), .c (z8t v3), .c (z34 v4), .c (z34 v5)] (pA k1 (pA (ixr z7y k2) (pA (z8x (X := X) k3) (pA (zgt (X := X) k4) (pA (ih_l02_Stmts _ _ k5) (pA (ih_l02_Stmts _ _ k6) pT)))))) (by kernel_rfl) ?_
   refine lp (ok X) (z4g (z2z n) v1) (fun (x2 : (Int × (List z1c))) => ⟨74, 0, [(0, [xL (List.map z1f a0)]), (3, [xR 0]), (4, [xI x1.1]), (5, [xP 1 0]), (6, [xP 2 0]), (7, [xI x2.1])], [oR true 109 19 (List.map z0r x1.2), oB 39 (bs (zba v1)), oB 109 [.pv (.int .i64 v1.Kind), .pv (.str v1.Name), .pv (.str v1.Tag), .pv (.int .i64 v2.Kind), .pv (.int .i64 v2.Num), .pv (.str v2.Name), .pv (.sl (List.map z10 v2.Kids)), .pv (.int .i64 v3.Op), .pv (.int .i64 v3.L.Kind), .pv (.int .i64 v3.L.Num), .pv (.str v3.L.Name), .pv (.sl (List.map z10 v3.L.Kids)), .pv (.int .i64 v3.R.Kind), .pv (.int .i64 v3.R.Num), .pv (.str v3.R.Name), .pv (.sl (List.map z10 v3.R.Kids)), .pv (.sl (List.map z0r v4)), .pv (.sl (List.map z0r v5)), .row 3], oR true 111 3 (List.map z1w x2.2)]⟩) (fun (j2 : (List z1c)) => ⟨74, 0, [(0, [xL (List.map z1f a0)]), (3, [xR 0]), (4, [xI x1.1]), (6, [xP 2 0])], [oR true 109 19 (List.map z0r x1.2), none, oB 109 [.pv (.int .i64 v1.Kind), .pv (.str v1.Name), .pv (.str v1.Tag), .pv (.int .i64 v2.Kind), .pv (.int .i64 v2.Num), .pv (.str v2.Name), .pv (.sl (List.map z10 v2.Kids)), .pv (.int .i64 v3.Op), .pv (.int .i64 v3.L.Kind), .pv (.int .i64 v3.L.Num), .pv (.str v3.L.Name), .pv (.sl (List.map z10 v3.L.Kids)), .pv (.int .i64 v3.R.Kind), .pv (.int .i64 v3.R.Num), .pv (.str v3.R.Name), .pv (.sl (List.map z10 v3.R.Kids)), .pv (.sl (List.map z0r v4)), .pv (.sl (List.map z0r v5)), .row 3], oR true 111 3 (List.map z1w j2)]⟩) zad (0, []) (fun _ => ⟨_, _, _, _, rfl⟩) h (by kernel_rfl) (fun x2 o h => ?_) (fun r' h => ?_) (fun j2 h => ?_)
   ·unfold z4g at h
    refine adv (ok X) 3 [.i (v1.Arms.length : Int)] (pA (lm z5f v1.Arms) pT) (by kernel_rfl) ?_
    rcases iteE h with ⟨k7, h⟩ | ⟨k7, h⟩
    ·obtain ⟨v6, k8, h⟩ := z08 h
     obtain ⟨v7, k9, h⟩ := z08 h
     obtain ⟨v8, k10, h⟩ := z08 h
     obtain rfl := retE h
     exact fin (ok X) 7 [.b true, .o [0, 1, 2, 3, 4, 5, 6, 7, 8, 9, 10, 11, 12, 13, 14, 15, 16, 17, 18, 19, 20, 21, 22, 23, 24, 25], .e (zaa v6), .e (zaa v6), .e (zaa v6), .c (z34 v7), .bl (List.map z1w [(z1c.mk v6.Tag v6.Var v7)]), .l (List.map z1w v8)] (pA k7 (pA (ixr z6k k8) (pA (ixr z6k k8) (pA (ixr z6k k8) (pA (ih_l02_Stmts _ _ k9) (pA (blc (e := z1w) (x := (z1c.mk v6.Tag v6.Var v7)) (z6m _).symm (bl0 z1w)) (pA (apm (L := x2.2) (M := [(z1c.mk v6.Tag v6.Var v7)]) zbp k10) pT))))))) (by kernel_rfl)
    ·obtain rfl := retE h
     exact fin (ok X) 2 [.b false] (pA k7 pT) (by kernel_rfl)
   ·cases h
   ·obtain ⟨v9, k11, h⟩ := z08 h
    obtain rfl := retE h
    exact fin (ok X) 3 [.z (.fz 3), .bl (List.map z0r [(z07.mk v1.Kind v1.Name v1.Tag v2 v3 v4 v5 j2)]), .l (List.map z0r v9)] (pA (blc (e := z0r) (x := (z07.mk v1.Kind v1.Name v1.Tag v2 v3 v4 v5 j2)) (z68 _).symm (bl0 z0r)) (pA (apm (L := x1.2) (M := [(z07.mk v1.Kind v1.Name v1.Tag v2 v3 v4 v5 j2)]) zao k11) pT)) (by kernel_rfl)
  ·obtain rfl := retE h
   exact fin (ok X) 2 [.b false] (pA k1 pT) (by kernel_rfl)
 ·cases h
 ·obtain rfl := retE h
  exact fin (ok X) 3 [] pT (by kernel_rfl)

theorem z84 : ∀ n : Nat, (∀ (a0 : (List z0b)) (r : (List z07)), z2z n a0 = some r → Cv Tryd.prog (GX X) 13 [xL (List.map z1f a0)] (z34 r))
 | 0 => (fun _ _ h => by rw [z2z] at h; cases h)
 | n + 1 => by
  have ih := z84 n
  exact ze5 ih

theorem ze6 {a0 : (List z0b)} {r : (List z07)} (h : zae a0 = some r) : Cv Tryd.prog (GX X) 13 [xL (List.map z1f a0)] (z34 r) := by
 obtain ⟨n, hn⟩ := unfE h
 exact (z84 n) _ _ hn

theorem z1x {a0 : z19} {r : z1d} (h : z1o a0 = some r) : Cv Tryd.prog (GX X) 6 [.agg (bs (z32 a0))] (z1l r) := by
 refine Cs.toV (?_ : Cs Tryd.prog (GX X) 6 [.agg (bs (z32 a0))] [] (z1l r) (z99 r)) (by kernel_rfl)
 refine fnT (cx := cx X) Tryd.f6 Tryd.call6 Tryd.func6 (by kernel_rfl) ?_
 unfold z1o at h
 refine adv (ok X) 7 [] pT (by kernel_rfl) ?_
 refine lp (ok X) (z3u a0) (fun (x1 : (Int × (List z2d))) => ⟨124, 0, [(1, [xP 0 0]), (2, [xP 1 0]), (3, [xP 2 0]), (4, [xI x1.1])], [oB 31 (bs (z32 a0)), oB 47 [.emp, .emp, .emp], oB 47 [.row 3, .emp, .emp], oR true 71 6 (List.map z22 x1.2)]⟩) (fun (j1 : (List z2d)) => ⟨124, 0, [(1, [xP 0 0]), (2, [xP 1 0]), (3, [xP 2 0])], [oB 31 (bs (z32 a0)), oB 47 [.emp, .emp, .emp], oB 47 [.row 3, .emp, .emp], oR true 71 6 (List.map z22 j1)]⟩) z5p (0, []) (fun _ => ⟨_, _, _, _, rfl⟩) h (by kernel_rfl) (fun x1 o h => ?_) (fun r' h => ?_) (fun j1 h => ?_)
 ·unfold z3u at h
  refine adv (ok X) 3 [.i (a0.Chans.length : Int)] (pA (lm z73 a0.Chans) pT) (by kernel_rfl) ?_
  rcases iteE h with ⟨k1, h⟩ | ⟨k1, h⟩
  ·obtain ⟨v1, k2, h⟩ := z08 h
   obtain ⟨v2, k3, h⟩ := z08 h
   obtain ⟨v3, k4, h⟩ := z08 h
   obtain rfl := retE h
   exact fin (ok X) 9 [.b true, .e (z73 v1), .o [0, 1, 2, 3, 4, 5, 6, 7, 8, 9, 10, 11, 12, 13, 14, 15, 16, 17, 18, 19, 20], .cp (List.map z0p v2), .l (List.map z22 v3)] (pA k1 (pA (ixm z73 k2) (pA (apm zah k3) (pA (apm (L := x1.2) (M := [(z2d.mk v1.Name v1.Kind v1.Size v1.From v1.To v2)]) zar k4) pT)))) (by kernel_rfl)
  ·obtain rfl := retE h
   exact fin (ok X) 2 [.b false] (pA k1 pT) (by kernel_rfl)
 ·cases h
 ·refine adv (ok X) 3 [] pT (by kernel_rfl) ?_
  refine lp (ok X) (z3w a0) (fun (x2 : (Int × (List z2m))) => ⟨124, 0, [(1, [xP 0 0]), (2, [xP 1 0]), (3, [xP 2 0]), (6, [xI x2.1])], [oB 31 (bs (z32 a0)), oB 47 [.emp, .emp, .emp], oB 47 [.row 3, .row 4, .emp], oR true 71 6 (List.map z22 j1), oR true 75 2 (List.map z2n x2.2)]⟩) (fun (j2 : (List z2m)) => ⟨124, 0, [(1, [xP 0 0]), (2, [xP 1 0]), (3, [xP 2 0])], [oB 31 (bs (z32 a0)), oB 47 [.emp, .emp, .emp], oB 47 [.row 3, .row 4, .emp], oR true 71 6 (List.map z22 j1), oR true 75 2 (List.map z2n j2)]⟩) z5p (0, []) (fun _ => ⟨_, _, _, _, rfl⟩) h (by kernel_rfl) (fun x2 o h => ?_) (fun r' h => ?_) (fun j2 h => ?_)
  ·unfold z3w at h
   refine adv (ok X) 3 [.i (a0.Rules.length : Int)] (pA (lm z4e a0.Rules) pT) (by kernel_rfl) ?_
   rcases iteE h with ⟨k5, h⟩ | ⟨k5, h⟩
   ·obtain ⟨v4, k6, h⟩ := z08 h
    refine adv (ok X) 9 [.b true, .e (z4e v4)] (pA k5 (pA (ixm z4e k6) pT)) (by kernel_rfl) ?_
    refine lp (ok X) (z3v a0 x2) (fun (x3 : (Int × (List z3r))) => ⟨124, 0, [(1, [xP 0 0]), (2, [xP 1 0]), (3, [xP 2 0]), (6, [xI x2.1]), (7, [xP 5 0]), (8, [xI x3.1])], [oB 31 (bs (z32 a0)), oB 47 [.emp, .emp, .emp], oB 47 [.row 3, .row 4, .emp], oR true 71 6 (List.map z22 j1), oR true 75 2 (List.map z2n x2.2), oB 75 [.pv (.str v4.Chan), .row 6], oR true 81 3 (List.map z3s x3.2)]⟩) (fun (j3 : (List z3r)) => ⟨124, 0, [(1, [xP 0 0]), (2, [xP 1 0]), (3, [xP 2 0]), (6, [xI x2.1]), (7, [xP 5 0])], [oB 31 (bs (z32 a0)), oB 47 [.emp, .emp, .emp], oB 47 [.row 3, .row 4, .emp], oR true 71 6 (List.map z22 j1), oR true 75 2 (List.map z2n x2.2), oB 75 [.pv (.str v4.Chan), .row 6], oR true 81 3 (List.map z3s j3)]⟩) z5p (0, []) (fun _ => ⟨_, _, _, _, rfl⟩) h (by kernel_rfl) (fun x3 o h => ?_) (fun r' h => ?_) (fun j3 h => ?_)
    ·unfold z3v at h
     obtain ⟨v5, k7, h⟩ := z08 h
     refine adv (ok X) 3 [.e (z4e v5), .i (v5.Moves.length : Int)] (pA (ixm z4e k7) (pA (lm z23 v5.Moves) pT)) (by kernel_rfl) ?_
     rcases iteE h with ⟨k8, h⟩ | ⟨k8, h⟩
     ·obtain ⟨v6, k9, h⟩ := z08 h
      obtain ⟨v7, k10, h⟩ := z08 h
      obtain ⟨v8, k11, h⟩ := z08 h
      obtain rfl := retE h
      exact fin (ok X) 9 [.b true, .e (z4e v6), .e (z23 v7), .l (List.map z3s v8)] (pA k8 (pA (ixm z4e k9) (pA (ixm z23 k10) (pA (apm (L := x3.2) (M := [(z3r.mk v7.From v7.Tag v7.To)]) zas k11) pT)))) (by kernel_rfl)
     ·obtain rfl := retE h
      exact fin (ok X) 2 [.b false] (pA k8 pT) (by kernel_rfl)
    ·cases h
    ·obtain ⟨v9, k12, h⟩ := z08 h
     obtain rfl := retE h
     exact fin (ok X) 3 [.z (.fz 6), .l (List.map z2n v9)] (pA (apm (L := x2.2) (M := [(z2m.mk v4.Chan j3)]) zat k12) pT) (by kernel_rfl)
   ·obtain rfl := retE h
    exact fin (ok X) 2 [.b false] (pA k5 pT) (by kernel_rfl)
  ·cases h
  ·refine adv (ok X) 3 [] pT (by kernel_rfl) ?_
   refine lp (ok X) (z3x a0) (fun (x4 : (Int × (List z2r))) => ⟨124, 0, [(1, [xP 0 0]), (2, [xP 1 0]), (3, [xP 2 0]), (10, [xI x4.1])], [oB 31 (bs (z32 a0)), oB 47 [.emp, .emp, .emp], oB 47 [.row 3, .row 4, .row 5], oR true 71 6 (List.map z22 j1), oR true 75 2 (List.map z2n j2), oR true 79 3 (List.map z2y x4.2)]⟩) (fun (j4 : (List z2r)) => ⟨124, 0, [(2, [xP 1 0]), (3, [xP 2 0])], [none, oB 47 [.emp, .emp, .emp], oB 47 [.row 3, .row 4, .row 5], oR true 71 6 (List.map z22 j1), oR true 75 2 (List.map z2n j2), oR true 79 3 (List.map z2y j4)]⟩) z5p (0, []) (fun _ => ⟨_, _, _, _, rfl⟩) h (by kernel_rfl) (fun x4 o h => ?_) (fun r' h => ?_) (fun j4 h => ?_)
   ·unfold z3x at h
    refine adv (ok X) 3 [.i (a0.Procs.length : Int)] (pA (lm z74 a0.Procs) pT) (by kernel_rfl) ?_
    rcases iteE h with ⟨k13, h⟩ | ⟨k13, h⟩
    ·obtain ⟨v10, k14, h⟩ := z08 h
     obtain ⟨v11, k15, h⟩ := z08 h
     obtain ⟨v12, k16, h⟩ := z08 h
     obtain ⟨v13, k17, h⟩ := z08 h
     obtain rfl := retE h
     exact fin (ok X) 9 [.b true, .e (z74 v10), .o [0, 1, 2, 3, 4, 5, 6, 7, 8, 9, 10, 11, 12, 13, 14, 15], .cp (List.map z0p v11), .c (z34 v12), .l (List.map z2y v13)] (pA k13 (pA (ixm z74 k14) (pA (apm zah k15) (pA (ze6 (X := X) k16) (pA (apm (L := x4.2) (M := [(z2r.mk v10.Name v11 v12)]) zau k17) pT))))) (by kernel_rfl)
    ·obtain rfl := retE h
     exact fin (ok X) 2 [.b false] (pA k13 pT) (by kernel_rfl)
   ·cases h
   ·obtain rfl := retE h
    exact fin (ok X) 3 [] pT (by kernel_rfl)

theorem z06 {a0 : z00} {a1 : (List ByteArray)} {r : z00} (h : z03 a0 a1 = some r) : Cs Tryd.prog (GX X) 17 [xP 0 0, xL (List.map z0p a1)] [oB 70 [.row 1, .pv (.bool a0.f_form), .pv (.bool a0.f_deep), .pv (.int .i64 a0.f_blocks), .pv (.int .i64 a0.f_parens)], oR false 9 1 (List.map z0p a0.f_out)] (z04 r) (z05 r) := by
 refine fnT (cx := cx X) Tryd.f17 Tryd.call17 Tryd.func17 (by kernel_rfl) ?_
 unfold z03 at h
 obtain ⟨v1, k1, h⟩ := z08 h
 obtain rfl := retE h
 exact fin (ok X) 1 [.l (List.map z0p v1)] (pA (apm (L := a0.f_out) (M := a1) zah k1) pT) (by kernel_rfl)

theorem z17 {a0 : z00} {a1 : Bool} {r : z00} (h : z0z a0 a1 = some r) : Cs Tryd.prog (GX X) 19 [xP 0 0, xB a1] [oB 70 [.row 1, .pv (.bool a0.f_form), .pv (.bool a0.f_deep), .pv (.int .i64 a0.f_blocks), .pv (.int .i64 a0.f_parens)], oR false 9 1 (List.map z0p a0.f_out)] (z14 r) (z15 r) := by
 refine fnT (cx := cx X) Tryd.f19 Tryd.call19 Tryd.func19 (by kernel_rfl) ?_
 unfold z0z at h
 rcases iteE h with ⟨k1, h⟩ | ⟨k1, h⟩
 ·obtain rfl := retE h
  exact fin (ok X) 1 (bT 3 []) (pR 3 k1 pT) (by kernel_rfl)
 ·obtain rfl := retE h
  exact fin (ok X) 1 (bF 3 []) (pR 3 k1 pT) (by kernel_rfl)

theorem z0q {a0 : z00} {a1 : ByteArray} {r : z00} (h : z0h a0 a1 = some r) : Cs Tryd.prog (GX X) 18 [xP 0 0, xS a1] [oB 70 [.row 1, .pv (.bool a0.f_form), .pv (.bool a0.f_deep), .pv (.int .i64 a0.f_blocks), .pv (.int .i64 a0.f_parens)], oR false 9 1 (List.map z0p a0.f_out)] (z0m r) (z0n r) := by
 refine fnT (cx := cx X) Tryd.f18 Tryd.call18 Tryd.func18 (by kernel_rfl) ?_
 unfold z0h at h
 obtain ⟨v1, k1, h⟩ := z08 h
 refine adv (ok X) 3 [.c (z2k v1)] (pA (z33 (X := X) k1) pT) (by kernel_rfl) ?_
 refine jn (ok X) 1 (fun (j1 : (Bool × Bool × Int × Int × (List ByteArray))) => ⟨41, 2, [(0, [xP 0 0]), (1, [xS a1])], [oB 70 [.row 1, .pv (.bool j1.1), .pv (.bool j1.2.1), .pv (.int .i64 j1.2.2.1), .pv (.int .i64 j1.2.2.2.1)], oR true 9 1 (List.map z0p j1.2.2.2.2)]⟩) h (fun j1 h => ?_) (fun j1 h => ?_)
 ·rcases iteE h with ⟨k2, h⟩ | ⟨k2, h⟩
  ·rcases iteE h with ⟨k3, h⟩ | ⟨k3, h⟩
   ·obtain ⟨v2, k4, h⟩ := z08 h
    rcases iteE h with ⟨k5, h⟩ | ⟨k5, h⟩
    ·obtain ⟨v3, k6, h⟩ := z08 h
     obtain ⟨v4, k7, h⟩ := z08 h
     obtain rfl := retE h
     exact fin (ok X) 1 (.b true :: .b true :: .i (v1.1.length : Int) :: bT 4 (.e (z01 v2) :: bT 6 (.e (z01 v3) :: bT 5 [.s (z14 v4) (z15 v4)]))) (pA k2 (pA k2 (pA (lm z01 v1.1) (pA k2 (pA k2 (pA k3 (pA k3 (pA (ixm z01 k4) (pR 4 k3 (pA k5 (pA k5 (pA (ixm z01 k6) (pR 5 k5 (pA (z17 (X := X) k7) pT)))))))))))))) (by kernel_rfl)
    ·obtain ⟨v5, k8, h⟩ := z08 h
     obtain rfl := retE h
     exact fin (ok X) 1 (.b true :: .b true :: .i (v1.1.length : Int) :: bT 4 (.e (z01 v2) :: bT 4 (bF 7 [.s (z14 v5) (z15 v5)]))) (pA k2 (pA k2 (pA (lm z01 v1.1) (pA k2 (pA k2 (pA k3 (pA k3 (pA (ixm z01 k4) (pR 4 k3 (pR 7 k5 (pA (z17 (X := X) k8) pT))))))))))) (by kernel_rfl)
   ·obtain ⟨v6, k9, h⟩ := z08 h
    obtain rfl := retE h
    exact fin (ok X) 1 (.b true :: .b true :: .i (v1.1.length : Int) :: .b true :: .b true :: bF 13 [.s (z14 v6) (z15 v6)]) (pA k2 (pA k2 (pA (lm z01 v1.1) (pA k2 (pA k2 (pR 6 k3 (pR 7 ff (pA (z17 (X := X) k9) pT)))))))) (by kernel_rfl)
  ·obtain ⟨v7, k10, h⟩ := z08 h
   obtain rfl := retE h
   exact fin (ok X) 1 (bF 17 [.s (z14 v7) (z15 v7)]) (pR 4 k2 (pR 13 ff (pA (z17 (X := X) k10) pT))) (by kernel_rfl)
 ·obtain ⟨v8, k11, h⟩ := z08 h
  obtain rfl := retE h
  exact fin (ok X) 1 [.s (z04 v8) (z05 v8)] (pA (z06 (X := X) k11) pT) (by kernel_rfl)

theorem z2u {a0 : z00} {a1 : Int} {r : z00} (h : z1g a0 a1 = some r) : Cs Tryd.prog (GX X) 20 [xP 0 0, xI a1] [oB 70 [.row 1, .pv (.bool a0.f_form), .pv (.bool a0.f_deep), .pv (.int .i64 a0.f_blocks), .pv (.int .i64 a0.f_parens)], oR false 9 1 (List.map z0p a0.f_out)] (z2e r) (z2f r) := by
 refine fnT (cx := cx X) Tryd.f20 Tryd.call20 Tryd.func20 (by kernel_rfl) ?_
 unfold z1g at h
 refine adv (ok X) 1 [] pT (by kernel_rfl) ?_
 refine jn (ok X) 1 (fun (j1 : (Bool × Bool × Int × Int × (List ByteArray))) => ⟨17, 2, [(0, [xP 0 0]), (1, [xI a1])], [oB 70 [.row 1, .pv (.bool j1.1), .pv (.bool j1.2.1), .pv (.int .i64 j1.2.2.1), .pv (.int .i64 j1.2.2.2.1)], oR true 9 1 (List.map z0p j1.2.2.2.2)]⟩) h (fun j1 h => ?_) (fun j1 h => ?_)
 ·rcases iteE h with ⟨k1, h⟩ | ⟨k1, h⟩
  ·obtain ⟨v1, k2, h⟩ := z08 h
   obtain rfl := retE h
   exact fin (ok X) 1 (bT 3 [.s (z14 v1) (z15 v1)]) (pR 3 k1 (pA (z17 (X := X) k2) pT)) (by kernel_rfl)
  ·obtain ⟨v2, k3, h⟩ := z08 h
   obtain rfl := retE h
   exact fin (ok X) 1 (bF 3 [.s (z14 v2) (z15 v2)]) (pR 3 k1 (pA (z17 (X := X) k3) pT)) (by kernel_rfl)
 ·obtain ⟨v3, k4, h⟩ := z08 h
  obtain ⟨v4, k5, h⟩ := z08 h
  obtain rfl := retE h
  exact fin (ok X) 1 [.c (zl1 v3), .s (z04 v4) (z05 v4)] (pA (znw (X := X) k4) (pA (z06 (X := X) k5) pT)) (by kernel_rfl)

theorem z78 {a0 : z00} {a1 : z2d} {r : z00} (h : z2o a0 a1 = some r) : Cs Tryd.prog (GX X) 10 [xP 0 0, .agg (bs (z22 a1))] [oB 70 [.row 1, .pv (.bool a0.f_form), .pv (.bool a0.f_deep), .pv (.int .i64 a0.f_blocks), .pv (.int .i64 a0.f_parens)], oR false 9 1 (List.map z0p a0.f_out)] (z40 r) (z41 r) := by
 refine fnT (cx := cx X) Tryd.f10 Tryd.call10 Tryd.func10 (by kernel_rfl) ?_
 unfold z2o at h
 obtain ⟨v1, k1, h⟩ := z08 h
 obtain ⟨v2, k2, h⟩ := z08 h
 refine adv (ok X) 8 [.s (z04 v1) (z05 v1), .s (z0m v2) (z0n v2)] (pA (z06 (X := X) k1) (pA (z0q (X := X) k2) pT)) (by kernel_rfl) ?_
 refine jn (ok X) 1 (fun (j1 : Bool) => ⟨77, 2, [(0, [xP 0 0]), (3, [xP 2 0]), (20, [xB j1])], [oB 70 [.row 1, .pv (.bool v2.f_form), .pv (.bool v2.f_deep), .pv (.int .i64 v2.f_blocks), .pv (.int .i64 v2.f_parens)], oR true 9 1 (List.map z0p v2.f_out), oB 71 (bs (z22 a1))]⟩) h (fun j1 h => ?_) (fun j1 h => ?_)
 ·rcases iteE h with ⟨k3, h⟩ | ⟨k3, h⟩
  ·obtain rfl := retE h
   exact fin (ok X) 1 (bT 4 []) (pR 4 k3 pT) (by kernel_rfl)
  ·obtain rfl := retE h
   exact fin (ok X) 1 (bF 4 []) (pR 4 k3 pT) (by kernel_rfl)
 ·rcases iteE h with ⟨k4, h⟩ | ⟨k4, h⟩
  ·obtain ⟨v3, k5, h⟩ := z08 h
   obtain ⟨v4, k6, h⟩ := z08 h
   obtain ⟨v5, k7, h⟩ := z08 h
   obtain ⟨v6, k8, h⟩ := z08 h
   obtain ⟨v7, k9, h⟩ := z08 h
   obtain ⟨v8, k10, h⟩ := z08 h
   obtain ⟨v9, k11, h⟩ := z08 h
   obtain ⟨v10, k12, h⟩ := z08 h
   refine adv (ok X) 19 [.b true, .s (z14 v3) (z15 v3), .s (z2e v4) (z2f v4), .s (z04 v5) (z05 v5), .s (z0m v6) (z0n v6), .s (z04 v7) (z05 v7), .s (z0m v8) (z0n v8), .s (z04 v9) (z05 v9), .i (a1.Tags.length : Int), .s (z14 v10) (z15 v10), .i (a1.Tags.length : Int)] (pA k4 (pA (z17 (X := X) k5) (pA (z2u (X := X) k6) (pA (z06 (X := X) k7) (pA (z0q (X := X) k8) (pA (z06 (X := X) k9) (pA (z0q (X := X) k10) (pA (z06 (X := X) k11) (pA (lm z0p a1.Tags) (pA (z17 (X := X) k12) (pA (lm z0p a1.Tags) pT))))))))))) (by kernel_rfl) ?_
   refine lp (ok X) (z1t a1) (fun (x2 : (Int × Bool × Bool × Int × Int × (List ByteArray))) => ⟨77, 2, [(0, [xP 0 0]), (58, [xL (List.map z0p a1.Tags)]), (59, [xI (a1.Tags.length : Int)]), (60, [xI x2.1])], [oB 70 [.row 1, .pv (.bool x2.2.1), .pv (.bool x2.2.2.1), .pv (.int .i64 x2.2.2.2.1), .pv (.int .i64 x2.2.2.2.2.1)], oR true 9 1 (List.map z0p x2.2.2.2.2.2)]⟩) (fun (j2 : (Bool × Bool × Int × Int × (List ByteArray))) => ⟨77, 2, [(0, [xP 0 0])], [oB 70 [.row 1, .pv (.bool j2.1), .pv (.bool j2.2.1), .pv (.int .i64 j2.2.2.1), .pv (.int .i64 j2.2.2.2.1)], oR true 9 1 (List.map z0p j2.2.2.2.2)]⟩) z56 (0, v10.f_form, v10.f_deep, v10.f_blocks, v10.f_parens, v10.f_out) (fun _ => ⟨_, _, _, _, rfl⟩) h (by kernel_rfl) (fun x2 o h => ?_) (fun r' h => ?_) (fun j2 h => ?_)
   ·unfold z1t at h
    rcases iteE h with ⟨k13, h⟩ | ⟨k13, h⟩
    ·refine adv (ok X) 6 [.b true] (pA k13 pT) (by kernel_rfl) ?_
     refine jn (ok X) 1 (fun (j3 : (Bool × Bool × Int × Int × (List ByteArray))) => ⟨77, 2, [(0, [xP 0 0]), (58, [xL (List.map z0p a1.Tags)]), (59, [xI (a1.Tags.length : Int)]), (60, [xI x2.1])], [oB 70 [.row 1, .pv (.bool j3.1), .pv (.bool j3.2.1), .pv (.int .i64 j3.2.2.1), .pv (.int .i64 j3.2.2.2.1)], oR true 9 1 (List.map z0p j3.2.2.2.2)]⟩) h (fun j3 h => ?_) (fun j3 h => ?_)
     ·obtain ⟨v11, k14, h⟩ := z08 h
      refine adv (ok X) 6 [.e [.str v11]] (pA (ixm z0p k14) pT) (by kernel_rfl) ?_
      rcases iteE h with ⟨k15, h⟩ | ⟨k15, h⟩
      ·obtain ⟨v12, k16, h⟩ := z08 h
       obtain ⟨v13, k17, h⟩ := z08 h
       obtain rfl := retE h
       exact fin (ok X) 4 [.b true, .s (z04 v12) (z05 v12), .s (z0m v13) (z0n v13)] (pA k15 (pA (z06 (X := X) k16) (pA (z0q (X := X) k17) pT))) (by kernel_rfl)
      ·obtain ⟨v14, k18, h⟩ := z08 h
       obtain rfl := retE h
       exact fin (ok X) 4 [.b false, .s (z0m v14) (z0n v14)] (pA k15 (pA (z0q (X := X) k18) pT)) (by kernel_rfl)
     ·obtain rfl := retE h
      exact fin (ok X) 1 [] pT (by kernel_rfl)
    ·obtain rfl := retE h
     exact fin (ok X) 5 [.b false] (pA k13 pT) (by kernel_rfl)
   ·cases h
   ·obtain ⟨v15, k19, h⟩ := z08 h
    obtain rfl := retE h
    exact fin (ok X) 1 [.s (z04 v15) (z05 v15)] (pA (z06 (X := X) k19) pT) (by kernel_rfl)
  ·obtain ⟨v16, k20, h⟩ := z08 h
   obtain ⟨v17, k21, h⟩ := z08 h
   obtain ⟨v18, k22, h⟩ := z08 h
   obtain ⟨v19, k23, h⟩ := z08 h
   obtain ⟨v20, k24, h⟩ := z08 h
   obtain ⟨v21, k25, h⟩ := z08 h
   obtain ⟨v22, k26, h⟩ := z08 h
   obtain ⟨v23, k27, h⟩ := z08 h
   obtain ⟨v24, k28, h⟩ := z08 h
   refine adv (ok X) 19 [.b false, .e [.str v16], .s (z04 v17) (z05 v17), .s (z2e v18) (z2f v18), .s (z04 v19) (z05 v19), .s (z0m v20) (z0n v20), .s (z04 v21) (z05 v21), .s (z0m v22) (z0n v22), .s (z04 v23) (z05 v23), .i (a1.Tags.length : Int), .s (z14 v24) (z15 v24), .i (a1.Tags.length : Int)] (pA k4 (pA (ixm z0p k20) (pA (z06 (X := X) k21) (pA (z2u (X := X) k22) (pA (z06 (X := X) k23) (pA (z0q (X := X) k24) (pA (z06 (X := X) k25) (pA (z0q (X := X) k26) (pA (z06 (X := X) k27) (pA (lm z0p a1.Tags) (pA (z17 (X := X) k28) (pA (lm z0p a1.Tags) pT)))))))))))) (by kernel_rfl) ?_
   refine lp (ok X) (z1u a1) (fun (x4 : (Int × Bool × Bool × Int × Int × (List ByteArray))) => ⟨77, 2, [(0, [xP 0 0]), (58, [xL (List.map z0p a1.Tags)]), (59, [xI (a1.Tags.length : Int)]), (60, [xI x4.1])], [oB 70 [.row 1, .pv (.bool x4.2.1), .pv (.bool x4.2.2.1), .pv (.int .i64 x4.2.2.2.1), .pv (.int .i64 x4.2.2.2.2.1)], oR true 9 1 (List.map z0p x4.2.2.2.2.2)]⟩) (fun (j4 : (Bool × Bool × Int × Int × (List ByteArray))) => ⟨77, 2, [(0, [xP 0 0])], [oB 70 [.row 1, .pv (.bool j4.1), .pv (.bool j4.2.1), .pv (.int .i64 j4.2.2.1), .pv (.int .i64 j4.2.2.2.1)], oR true 9 1 (List.map z0p j4.2.2.2.2)]⟩) z56 (0, v24.f_form, v24.f_deep, v24.f_blocks, v24.f_parens, v24.f_out) (fun _ => ⟨_, _, _, _, rfl⟩) h (by kernel_rfl) (fun x4 o h => ?_) (fun r' h => ?_) (fun j4 h => ?_)
   ·unfold z1u at h
    rcases iteE h with ⟨k29, h⟩ | ⟨k29, h⟩
    ·refine adv (ok X) 6 [.b true] (pA k29 pT) (by kernel_rfl) ?_
     refine jn (ok X) 1 (fun (j5 : (Bool × Bool × Int × Int × (List ByteArray))) => ⟨77, 2, [(0, [xP 0 0]), (58, [xL (List.map z0p a1.Tags)]), (59, [xI (a1.Tags.length : Int)]), (60, [xI x4.1])], [oB 70 [.row 1, .pv (.bool j5.1), .pv (.bool j5.2.1), .pv (.int .i64 j5.2.2.1), .pv (.int .i64 j5.2.2.2.1)], oR true 9 1 (List.map z0p j5.2.2.2.2)]⟩) h (fun j5 h => ?_) (fun j5 h => ?_)
     ·obtain ⟨v25, k30, h⟩ := z08 h
      refine adv (ok X) 6 [.e [.str v25]] (pA (ixm z0p k30) pT) (by kernel_rfl) ?_
      rcases iteE h with ⟨k31, h⟩ | ⟨k31, h⟩
      ·obtain ⟨v26, k32, h⟩ := z08 h
       obtain ⟨v27, k33, h⟩ := z08 h
       obtain rfl := retE h
       exact fin (ok X) 4 [.b true, .s (z04 v26) (z05 v26), .s (z0m v27) (z0n v27)] (pA k31 (pA (z06 (X := X) k32) (pA (z0q (X := X) k33) pT))) (by kernel_rfl)
      ·obtain ⟨v28, k34, h⟩ := z08 h
       obtain rfl := retE h
       exact fin (ok X) 4 [.b false, .s (z0m v28) (z0n v28)] (pA k31 (pA (z0q (X := X) k34) pT)) (by kernel_rfl)
     ·obtain rfl := retE h
      exact fin (ok X) 1 [] pT (by kernel_rfl)
    ·obtain rfl := retE h
     exact fin (ok X) 5 [.b false] (pA k29 pT) (by kernel_rfl)
   ·cases h
   ·obtain ⟨v29, k35, h⟩ := z08 h
    obtain rfl := retE h
    exact fin (ok X) 1 [.s (z04 v29) (z05 v29)] (pA (z06 (X := X) k35) pT) (by kernel_rfl)

theorem z8y {a0 : z00} {a1 : z2m} {r : z00} (h : z3a a0 a1 = some r) : Cs Tryd.prog (GX X) 11 [xP 0 0, .agg (bs (z2n a1))] [oB 70 [.row 1, .pv (.bool a0.f_form), .pv (.bool a0.f_deep), .pv (.int .i64 a0.f_blocks), .pv (.int .i64 a0.f_parens)], oR false 9 1 (List.map z0p a0.f_out)] (z4r r) (z4s r) := by
 refine fnT (cx := cx X) Tryd.f11 Tryd.call11 Tryd.func11 (by kernel_rfl) ?_
 unfold z3a at h
 obtain ⟨v1, k1, h⟩ := z08 h
 obtain ⟨v2, k2, h⟩ := z08 h
 obtain ⟨v3, k3, h⟩ := z08 h
 refine adv (ok X) 11 [.s (z04 v1) (z05 v1), .s (z0m v2) (z0n v2), .s (z04 v3) (z05 v3), .i (a1.Moves.length : Int)] (pA (z06 (X := X) k1) (pA (z0q (X := X) k2) (pA (z06 (X := X) k3) (pA (lm z3s a1.Moves) pT)))) (by kernel_rfl) ?_
 refine lp (ok X) (z29 a1) (fun (x1 : (Int × Bool × Bool × Int × Int × (List ByteArray))) => ⟨42, 2, [(0, [xP 0 0]), (17, [xL (List.map z3s a1.Moves)]), (18, [xI (a1.Moves.length : Int)]), (19, [xI x1.1])], [oB 70 [.row 1, .pv (.bool x1.2.1), .pv (.bool x1.2.2.1), .pv (.int .i64 x1.2.2.2.1), .pv (.int .i64 x1.2.2.2.2.1)], oR true 9 1 (List.map z0p x1.2.2.2.2.2)]⟩) (fun (j1 : (Bool × Bool × Int × Int × (List ByteArray))) => ⟨42, 2, [(0, [xP 0 0])], [oB 70 [.row 1, .pv (.bool j1.1), .pv (.bool j1.2.1), .pv (.int .i64 j1.2.2.1), .pv (.int .i64 j1.2.2.2.1)], oR true 9 1 (List.map z0p j1.2.2.2.2)]⟩) z8u (0, v3.f_form, v3.f_deep, v3.f_blocks, v3.f_parens, v3.f_out) (fun _ => ⟨_, _, _, _, rfl⟩) h (by kernel_rfl) (fun x1 o h => ?_) (fun r' h => ?_) (fun j1 h => ?_)
 ·unfold z29 at h
  rcases iteE h with ⟨k4, h⟩ | ⟨k4, h⟩
  ·obtain ⟨v4, k5, h⟩ := z08 h
   obtain ⟨v5, k6, h⟩ := z08 h
   obtain ⟨v6, k7, h⟩ := z08 h
   obtain ⟨v7, k8, h⟩ := z08 h
   obtain ⟨v8, k9, h⟩ := z08 h
   obtain rfl := retE h
   exact fin (ok X) 18 [.b true, .e (z3s v4), .s (z2e v5) (z2f v5), .s (z0m v6) (z0n v6), .s (z2e v7) (z2f v7), .s (z04 v8) (z05 v8)] (pA k4 (pA (ixm z3s k5) (pA (z2u (X := X) k6) (pA (z0q (X := X) k7) (pA (z2u (X := X) k8) (pA (z06 (X := X) k9) pT)))))) (by kernel_rfl)
  ·obtain rfl := retE h
   exact fin (ok X) 5 [.b false] (pA k4 pT) (by kernel_rfl)
 ·cases h
 ·obtain ⟨v9, k10, h⟩ := z08 h
  obtain rfl := retE h
  exact fin (ok X) 1 [.s (z04 v9) (z05 v9)] (pA (z06 (X := X) k10) pT) (by kernel_rfl)

theorem z76 {a0 : Int} {r : Bool} (h : z6b a0 = some r) : Cv Tryd.prog (GX X) 57 [xI a0] (z5b r) := by
 refine Cs.toV (?_ : Cs Tryd.prog (GX X) 57 [xI a0] [] (z5b r) (zgo r)) (by kernel_rfl)
 refine fnT (cx := cx X) Tryd.f57 Tryd.call57 Tryd.func57 (by kernel_rfl) ?_
 unfold z6b at h
 rcases iteE h with ⟨k1, h⟩ | ⟨k1, h⟩
 ·obtain rfl := retE h
  exact fin (ok X) 5 (bT 3 []) (pR 3 k1 pT) (by kernel_rfl)
 ·obtain rfl := retE h
  exact fin (ok X) 5 (bF 3 []) (pR 3 k1 pT) (by kernel_rfl)

theorem z52 {a0 : Int} {r : Bool} (h : z6o a0 = some r) : Cv Tryd.prog (GX X) 58 [xI a0] (z48 r) := by
 refine Cs.toV (?_ : Cs Tryd.prog (GX X) 58 [xI a0] [] (z48 r) (zin r)) (by kernel_rfl)
 refine fnT (cx := cx X) Tryd.f58 Tryd.call58 Tryd.func58 (by kernel_rfl) ?_
 unfold z6o at h
 rcases iteE h with ⟨k1, h⟩ | ⟨k1, h⟩
 ·obtain rfl := retE h
  exact fin (ok X) 5 (bT 3 []) (pR 3 k1 pT) (by kernel_rfl)
 ·obtain rfl := retE h
  exact fin (ok X) 5 (bF 3 []) (pR 3 k1 pT) (by kernel_rfl)

theorem z8z {a0 : z00} {a1 : z09} {r : z00} (h : z3k a0 a1 = some r) : Cs Tryd.prog (GX X) 59 [xP 0 0, .agg (bs (z0d a1))] [oB 70 [.row 1, .pv (.bool a0.f_form), .pv (.bool a0.f_deep), .pv (.int .i64 a0.f_blocks), .pv (.int .i64 a0.f_parens)], oR false 9 1 (List.map z0p a0.f_out)] (z61 r) (z62 r) := by
 refine fnT (cx := cx X) Tryd.f59 Tryd.call59 Tryd.func59 (by kernel_rfl) ?_
 unfold z3k at h
 obtain ⟨v1, k1, h⟩ := z08 h
 refine adv (ok X) 7 [.i (a1.Kids.length : Int), .s (z14 v1) (z15 v1)] (pA (lm z10 a1.Kids) (pA (z17 (X := X) k1) pT)) (by kernel_rfl) ?_
 rcases iteE h with ⟨k2, h⟩ | ⟨k2, h⟩
 ·obtain ⟨v2, k3, h⟩ := z08 h
  obtain rfl := retE h
  exact fin (ok X) 4 [.b true, .s (z2e v2) (z2f v2)] (pA k2 (pA (z2u (X := X) k3) pT)) (by kernel_rfl)
 ·obtain ⟨v3, k4, h⟩ := z08 h
  obtain ⟨v4, k5, h⟩ := z08 h
  obtain rfl := retE h
  exact fin (ok X) 5 [.b false, .s (z14 v3) (z15 v3), .s (z0m v4) (z0n v4)] (pA k2 (pA (z17 (X := X) k4) (pA (z0q (X := X) k5) pT))) (by kernel_rfl)

theorem z90 {n : Nat} (ih_ast_writer_expr : ∀ (a0 : z00) (a1 : z09) (r : z00), z0s n a0 a1 = some r → Cs Tryd.prog (GX X) 39 [xP 0 0, .agg (bs (z0d a1))] [oB 70 [.row 1, .pv (.bool a0.f_form), .pv (.bool a0.f_deep), .pv (.int .i64 a0.f_blocks), .pv (.int .i64 a0.f_parens)], oR false 9 1 (List.map z0p a0.f_out)] (z11 r) (z12 r)) (ih_ast_writer_deeper_ast_writer_expr_1 : ∀ (a0 : z00) (a1011 : z09) (r : z00), z0a n a0 a1011 = some r → Cs Tryd.prog (GX X) 54 [xP 0 0, .fn (.func 55) [] [.box 2 0, .box 3 0]] [oB 70 [.row 1, .pv (.bool a0.f_form), .pv (.bool a0.f_deep), .pv (.int .i64 a0.f_blocks), .pv (.int .i64 a0.f_parens)], oR false 9 1 (List.map z0p a0.f_out), oB 68 [.box 0 0], oB 102 (bs (z0d a1011))] (z0i r) (z0j a1011 r)) (ih_ast_writer_kid : ∀ (a0 : z00) (a1 : z09) (a2 : Bool) (r : z00), z0u n a0 a1 a2 = some r → Cs Tryd.prog (GX X) 56 [xP 0 0, .agg (bs (z0d a1)), xB a2] [oB 70 [.row 1, .pv (.bool a0.f_form), .pv (.bool a0.f_deep), .pv (.int .i64 a0.f_blocks), .pv (.int .i64 a0.f_parens)], oR false 9 1 (List.map z0p a0.f_out)] (z1a r) (z1b r)) (ih_ast_writer_expr_1 : ∀ (a0 : z00) (a1 : z09) (r : z00), z13 n a0 a1 = some r → Cs Tryd.prog (GX X) 55 [xP 0 0, xP 3 0] [oB 68 [.box 1 0], oB 70 [.row 2, .pv (.bool a0.f_form), .pv (.bool a0.f_deep), .pv (.int .i64 a0.f_blocks), .pv (.int .i64 a0.f_parens)], oR false 9 1 (List.map z0p a0.f_out), oB 102 (bs (z0d a1))] (z1m r) (z1n a1 r)) (ih_ast_writer_deeper_ast_writer_kid_1 : ∀ (a0 : z00) (a1011 : z09) (r : z00), z0c n a0 a1011 = some r → Cs Tryd.prog (GX X) 54 [xP 0 0, .fn (.func 74) [] [.box 2 0, .box 3 0]] [oB 70 [.row 1, .pv (.bool a0.f_form), .pv (.bool a0.f_deep), .pv (.int .i64 a0.f_blocks), .pv (.int .i64 a0.f_parens)], oR false 9 1 (List.map z0p a0.f_out), oB 68 [.box 0 0], oB 102 (bs (z0d a1011))] (z0k r) (z0l a1011 r)) (ih_ast_writer_kid_1 : ∀ (a0 : z00) (a1 : z09) (r : z00), z16 n a0 a1 = some r → Cs Tryd.prog (GX X) 74 [xP 0 0, xP 3 0] [oB 68 [.box 1 0], oB 70 [.row 2, .pv (.bool a0.f_form), .pv (.bool a0.f_deep), .pv (.int .i64 a0.f_blocks), .pv (.int .i64 a0.f_parens)], oR false 9 1 (List.map z0p a0.f_out), oB 102 (bs (z0d a1))] (z1q r) (z1r a1 r)) (a0 : z00) (a1 : z09) (r : z00) (h : z0s (n + 1) a0 a1 = some r) : Cs Tryd.prog (GX X) 39 [xP 0 0, .agg (bs (z0d a1))] [oB 70 [.row 1, .pv (.bool a0.f_form), .pv (.bool a0.f_deep), .pv (.int .i64 a0.f_blocks), .pv (.int .i64 a0.f_parens)], oR false 9 1 (List.map z0p a0.f_out)] (z11 r) (z12 r) := by
 refine fnT (cx := cx X) Tryd.f39 Tryd.call39 Tryd.func39 (by kernel_rfl) ?_
 rw [z0s] at h
 refine adv (ok X) 4 [] pT (by kernel_rfl) ?_
 refine jn (ok X) 1 (fun (j1 : Bool) => ⟨80, 2, [(2, [xP 2 0]), (3, [xP 3 0]), (9, [xB j1])], [oB 70 [.row 1, .pv (.bool a0.f_form), .pv (.bool a0.f_deep), .pv (.int .i64 a0.f_blocks), .pv (.int .i64 a0.f_parens)], oR false 9 1 (List.map z0p a0.f_out), oB 68 [.box 0 0], oB 102 (bs (z0d a1))]⟩) h (fun j1 h => ?_) (fun j1 h => ?_)
 ·rcases iteE h with ⟨k1, h⟩ | ⟨k1, h⟩
  ·obtain rfl := retE h
   exact fin (ok X) 1 (bT 3 [.i (a1.Kids.length : Int), .b true, .b true]) (pR 3 k1 (pA (lm z10 a1.Kids) (pA k1 (pA k1 pT)))) (by kernel_rfl)
  ·obtain rfl := retE h
   exact fin (ok X) 1 (bF 5 []) (pR 5 k1 pT) (by kernel_rfl)
 ·rcases iteE h with ⟨k2, h⟩ | ⟨k2, h⟩
  ·obtain ⟨v1, k3, h⟩ := z08 h
   obtain ⟨v2, k4, h⟩ := z08 h
   obtain rfl := retE h
   exact fin (ok X) 5 [.b true, .s (z04 v1) (z05 v1), .s (z0i v2) (z0j a1 v2)] (pA k2 (pA (z06 (X := X) k3) (pA (ih_ast_writer_deeper_ast_writer_expr_1 _ _ _ k4) pT))) (by kernel_rfl)
  ·refine adv (ok X) 2 [.b false] (pA k2 pT) (by kernel_rfl) ?_
   refine jn (ok X) 1 (fun (j2 : Bool) => ⟨80, 2, [(2, [xP 2 0]), (3, [xP 3 0]), (25, [xB j2])], [oB 70 [.row 1, .pv (.bool a0.f_form), .pv (.bool a0.f_deep), .pv (.int .i64 a0.f_blocks), .pv (.int .i64 a0.f_parens)], oR false 9 1 (List.map z0p a0.f_out), oB 68 [.box 0 0], oB 102 (bs (z0d a1))]⟩) h (fun j2 h => ?_) (fun j2 h => ?_)
   ·obtain ⟨v3, k5, h⟩ := z08 h
    rcases iteE h with ⟨k6, h⟩ | ⟨k6, h⟩
    ·obtain rfl := retE h
     exact fin (ok X) 1 (.c (z5b v3) :: bT 3 [.i (a1.Kids.length : Int), .b true, .b true]) (pA (z76 (X := X) k5) (pR 3 k6 (pA (lm z10 a1.Kids) (pA k6 (pA k6 pT))))) (by kernel_rfl)
    ·obtain rfl := retE h
     exact fin (ok X) 1 (.c (z5b v3) :: bF 5 []) (pA (z76 (X := X) k5) (pR 5 k6 pT)) (by kernel_rfl)
   ·rcases iteE h with ⟨k7, h⟩ | ⟨k7, h⟩
    ·obtain ⟨v4, k8, h⟩ := z08 h
     obtain ⟨v5, k9, h⟩ := z08 h
     refine adv (ok X) 4 [.b true, .o [0, 1, 2, 3, 4, 5, 6, 7, 8, 9, 10, 11], .e (z0d v4), .e (z0d v5)] (pA k7 (pA (ixr z3t k8) (pA (ixr z3t k9) pT))) (by kernel_rfl) ?_
     refine jn (ok X) 1 (fun (j3 : (Bool × Bool × Int × Int × (List ByteArray))) => ⟨80, 2, [(2, [xP 2 0]), (3, [xP 3 0]), (5, [xP 5 0])], [oB 70 [.row 1, .pv (.bool j3.1), .pv (.bool j3.2.1), .pv (.int .i64 j3.2.2.1), .pv (.int .i64 j3.2.2.2.1)], oR true 9 1 (List.map z0p j3.2.2.2.2), oB 68 [.box 0 0], oB 102 (bs (z0d a1)), none, oB 102 (bs (z0d v5))]⟩) h (fun j3 h => ?_) (fun j3 h => ?_)
     ·obtain ⟨v6, k10, h⟩ := z08 h
      rcases iteE h with ⟨k11, h⟩ | ⟨k11, h⟩
      ·obtain ⟨v7, k12, h⟩ := z08 h
       obtain ⟨v8, k13, h⟩ := z08 h
       obtain rfl := retE h
       exact fin (ok X) 1 (.o [0, 1, 2, 3, 4, 5, 6, 7, 8, 9, 10, 11] :: .c (z48 v6) :: bT 3 [.c (z48 v7), .b true, .s (z1a v8) (z1b v8)]) (pA (z52 (X := X) k10) (pR 3 k11 (pA (z52 (X := X) k12) (pA k11 (pA (ih_ast_writer_kid _ _ _ _ k13) pT))))) (by kernel_rfl)
      ·obtain ⟨v9, k14, h⟩ := z08 h
       obtain rfl := retE h
       exact fin (ok X) 1 (.o [0, 1, 2, 3, 4, 5, 6, 7, 8, 9, 10, 11] :: .c (z48 v6) :: bF 4 [.s (z1a v9) (z1b v9)]) (pA (z52 (X := X) k10) (pR 4 k11 (pA (ih_ast_writer_kid _ _ _ _ k14) pT))) (by kernel_rfl)
     ·obtain ⟨v10, k15, h⟩ := z08 h
      obtain ⟨v11, k16, h⟩ := z08 h
      refine adv (ok X) 2 [.o [0, 1, 2, 3, 4, 5, 6, 7], .e [.str v10], .s (z04 v11) (z05 v11)] (pA (ixm z0p k15) (pA (z06 (X := X) k16) pT)) (by kernel_rfl) ?_
      obtain ⟨v12, k17, h⟩ := z08 h
      rcases iteE h with ⟨k18, h⟩ | ⟨k18, h⟩
      ·obtain ⟨v13, k19, h⟩ := z08 h
       obtain rfl := retE h
       exact fin (ok X) 2 (.o [0, 1, 2, 3, 4, 5, 6, 7, 8, 9, 10, 11, 12, 13, 14, 15, 16] :: .c (z48 v12) :: bT 7 [.s (z1a v13) (z1b v13)]) (pA (z52 (X := X) k17) (pR 7 k18 (pA (ih_ast_writer_kid _ _ _ _ k19) pT))) (by kernel_rfl)
      ·obtain ⟨v14, k20, h⟩ := z08 h
       rcases iteE h with ⟨k21, h⟩ | ⟨k21, h⟩
       ·obtain ⟨v15, k22, h⟩ := z08 h
        obtain ⟨v16, k23, h⟩ := z08 h
        obtain rfl := retE h
        exact fin (ok X) 2 (.o [0, 1, 2, 3, 4, 5, 6, 7, 8, 9, 10, 11, 12, 13, 14, 15, 16] :: .c (z48 v12) :: bF 3 (.c (z48 v14) :: .b false :: .b false :: bT 3 [.c (z5b v15), .b false, .b true, .b false, .s (z1a v16) (z1b v16)])) (pA (z52 (X := X) k17) (pR 3 k18 (pA (z52 (X := X) k20) (pA k18 (pA k18 (pR 3 k21 (pA (z76 (X := X) k22) (pA k18 (pA k21 (pA k18 (pA (ih_ast_writer_kid _ _ _ _ k23) pT))))))))))) (by kernel_rfl)
       ·obtain ⟨v17, k24, h⟩ := z08 h
        obtain rfl := retE h
        exact fin (ok X) 2 (.o [0, 1, 2, 3, 4, 5, 6, 7, 8, 9, 10, 11, 12, 13, 14, 15, 16] :: .c (z48 v12) :: bF 3 (.c (z48 v14) :: bF 8 [.s (z1a v17) (z1b v17)])) (pA (z52 (X := X) k17) (pR 3 k18 (pA (z52 (X := X) k20) (pA k18 (pA k18 (pR 3 k21 (pA k18 (pA k21 (pA k18 (pA (ih_ast_writer_kid _ _ _ _ k24) pT)))))))))) (by kernel_rfl)
    ·obtain ⟨v18, k25, h⟩ := z08 h
     obtain rfl := retE h
     exact fin (ok X) 3 [.b false, .s (z61 v18) (z62 v18)] (pA k7 (pA (z8z (X := X) k25) pT)) (by kernel_rfl)

theorem z42 {n : Nat} (ih_ast_writer_expr : ∀ (a0 : z00) (a1 : z09) (r : z00), z0s n a0 a1 = some r → Cs Tryd.prog (GX X) 39 [xP 0 0, .agg (bs (z0d a1))] [oB 70 [.row 1, .pv (.bool a0.f_form), .pv (.bool a0.f_deep), .pv (.int .i64 a0.f_blocks), .pv (.int .i64 a0.f_parens)], oR false 9 1 (List.map z0p a0.f_out)] (z11 r) (z12 r)) (ih_ast_writer_deeper_ast_writer_expr_1 : ∀ (a0 : z00) (a1011 : z09) (r : z00), z0a n a0 a1011 = some r → Cs Tryd.prog (GX X) 54 [xP 0 0, .fn (.func 55) [] [.box 2 0, .box 3 0]] [oB 70 [.row 1, .pv (.bool a0.f_form), .pv (.bool a0.f_deep), .pv (.int .i64 a0.f_blocks), .pv (.int .i64 a0.f_parens)], oR false 9 1 (List.map z0p a0.f_out), oB 68 [.box 0 0], oB 102 (bs (z0d a1011))] (z0i r) (z0j a1011 r)) (ih_ast_writer_kid : ∀ (a0 : z00) (a1 : z09) (a2 : Bool) (r : z00), z0u n a0 a1 a2 = some r → Cs Tryd.prog (GX X) 56 [xP 0 0, .agg (bs (z0d a1)), xB a2] [oB 70 [.row 1, .pv (.bool a0.f_form), .pv (.bool a0.f_deep), .pv (.int .i64 a0.f_blocks), .pv (.int .i64 a0.f_parens)], oR false 9 1 (List.map z0p a0.f_out)] (z1a r) (z1b r)) (ih_ast_writer_expr_1 : ∀ (a0 : z00) (a1 : z09) (r : z00), z13 n a0 a1 = some r → Cs Tryd.prog (GX X) 55 [xP 0 0, xP 3 0] [oB 68 [.box 1 0], oB 70 [.row 2, .pv (.bool a0.f_form), .pv (.bool a0.f_deep), .pv (.int .i64 a0.f_blocks), .pv (.int .i64 a0.f_parens)], oR false 9 1 (List.map z0p a0.f_out), oB 102 (bs (z0d a1))] (z1m r) (z1n a1 r)) (ih_ast_writer_deeper_ast_writer_kid_1 : ∀ (a0 : z00) (a1011 : z09) (r : z00), z0c n a0 a1011 = some r → Cs Tryd.prog (GX X) 54 [xP 0 0, .fn (.func 74) [] [.box 2 0, .box 3 0]] [oB 70 [.row 1, .pv (.bool a0.f_form), .pv (.bool a0.f_deep), .pv (.int .i64 a0.f_blocks), .pv (.int .i64 a0.f_parens)], oR false 9 1 (List.map z0p a0.f_out), oB 68 [.box 0 0], oB 102 (bs (z0d a1011))] (z0k r) (z0l a1011 r)) (ih_ast_writer_kid_1 : ∀ (a0 : z00) (a1 : z09) (r : z00), z16 n a0 a1 = some r → Cs Tryd.prog (GX X) 74 [xP 0 0, xP 3 0] [oB 68 [.box 1 0], oB 70 [.row 2, .pv (.bool a0.f_form), .pv (.bool a0.f_deep), .pv (.int .i64 a0.f_blocks), .pv (.int .i64 a0.f_parens)], oR false 9 1 (List.map z0p a0.f_out), oB 102 (bs (z0d a1))] (z1q r) (z1r a1 r)) (a0 : z00) (a1011 : z09) (r : z00) (h : z0a (n + 1) a0 a1011 = some r) : Cs Tryd.prog (GX X) 54 [xP 0 0, .fn (.func 55) [] [.box 2 0, .box 3 0]] [oB 70 [.row 1, .pv (.bool a0.f_form), .pv (.bool a0.f_deep), .pv (.int .i64 a0.f_blocks), .pv (.int .i64 a0.f_parens)], oR false 9 1 (List.map z0p a0.f_out), oB 68 [.box 0 0], oB 102 (bs (z0d a1011))] (z0i r) (z0j a1011 r) := by
 refine fnT (cx := cx X) Tryd.f54 Tryd.call54 Tryd.func54 (by kernel_rfl) ?_
 rw [z0a] at h
 refine adv (ok X) 3 [] pT (by kernel_rfl) ?_
 refine jn (ok X) 1 (fun (j1 : Bool) => ⟨34, 4, [(0, [xP 0 0]), (1, [.fn (.func 55) [] [.box 2 0, .box 3 0]])], [oB 70 [.row 1, .pv (.bool a0.f_form), .pv (.bool j1), .pv (.int .i64 a0.f_blocks), .pv (.int .i64 (IntKind.i64.wrap (a0.f_parens + 1)))], oR false 9 1 (List.map z0p a0.f_out), oB 68 [.box 0 0], oB 102 (bs (z0d a1011))]⟩) h (fun j1 h => ?_) (fun j1 h => ?_)
 ·rcases iteE h with ⟨k1, h⟩ | ⟨k1, h⟩
  ·obtain rfl := retE h
   exact fin (ok X) 1 (bT 6 []) (pR 6 k1 pT) (by kernel_rfl)
  ·obtain rfl := retE h
   exact fin (ok X) 1 (bF 6 []) (pR 6 k1 pT) (by kernel_rfl)
 ·obtain ⟨v1, k2, h⟩ := z08 h
  obtain rfl := retE h
  exact fin (ok X) 3 [.s (z1m v1) (z1n a1011 v1)] (pA (ih_ast_writer_expr_1 _ _ _ k2) pT) (by kernel_rfl)

theorem z9e {n : Nat} (ih_ast_writer_expr : ∀ (a0 : z00) (a1 : z09) (r : z00), z0s n a0 a1 = some r → Cs Tryd.prog (GX X) 39 [xP 0 0, .agg (bs (z0d a1))] [oB 70 [.row 1, .pv (.bool a0.f_form), .pv (.bool a0.f_deep), .pv (.int .i64 a0.f_blocks), .pv (.int .i64 a0.f_parens)], oR false 9 1 (List.map z0p a0.f_out)] (z11 r) (z12 r)) (ih_ast_writer_deeper_ast_writer_expr_1 : ∀ (a0 : z00) (a1011 : z09) (r : z00), z0a n a0 a1011 = some r → Cs Tryd.prog (GX X) 54 [xP 0 0, .fn (.func 55) [] [.box 2 0, .box 3 0]] [oB 70 [.row 1, .pv (.bool a0.f_form), .pv (.bool a0.f_deep), .pv (.int .i64 a0.f_blocks), .pv (.int .i64 a0.f_parens)], oR false 9 1 (List.map z0p a0.f_out), oB 68 [.box 0 0], oB 102 (bs (z0d a1011))] (z0i r) (z0j a1011 r)) (ih_ast_writer_kid : ∀ (a0 : z00) (a1 : z09) (a2 : Bool) (r : z00), z0u n a0 a1 a2 = some r → Cs Tryd.prog (GX X) 56 [xP 0 0, .agg (bs (z0d a1)), xB a2] [oB 70 [.row 1, .pv (.bool a0.f_form), .pv (.bool a0.f_deep), .pv (.int .i64 a0.f_blocks), .pv (.int .i64 a0.f_parens)], oR false 9 1 (List.map z0p a0.f_out)] (z1a r) (z1b r)) (ih_ast_writer_expr_1 : ∀ (a0 : z00) (a1 : z09) (r : z00), z13 n a0 a1 = some r → Cs Tryd.prog (GX X) 55 [xP 0 0, xP 3 0] [oB 68 [.box 1 0], oB 70 [.row 2, .pv (.bool a0.f_form), .pv (.bool a0.f_deep), .pv (.int .i64 a0.f_blocks), .pv (.int .i64 a0.f_parens)], oR false 9 1 (List.map z0p a0.f_out), oB 102 (bs (z0d a1))] (z1m r) (z1n a1 r)) (ih_ast_writer_deeper_ast_writer_kid_1 : ∀ (a0 : z00) (a1011 : z09) (r : z00), z0c n a0 a1011 = some r → Cs Tryd.prog (GX X) 54 [xP 0 0, .fn (.func 74) [] [.box 2 0, .box 3 0]] [oB 70 [.row 1, .pv (.bool a0.f_form), .pv (.bool a0.f_deep), .pv (.int .i64 a0.f_blocks), .pv (.int .i64 a0.f_parens)], oR false 9 1 (List.map z0p a0.f_out), oB 68 [.box 0 0], oB 102 (bs (z0d a1011))] (z0k r) (z0l a1011 r)) (ih_ast_writer_kid_1 : ∀ (a0 : z00) (a1 : z09) (r : z00), z16 n a0 a1 = some r → Cs Tryd.prog (GX X) 74 [xP 0 0, xP 3 0] [oB 68 [.box 1 0], oB 70 [.row 2, .pv (.bool a0.f_form), .pv (.bool a0.f_deep), .pv (.int .i64 a0.f_blocks), .pv (.int .i64 a0.f_parens)], oR false 9 1 (List.map z0p a0.f_out), oB 102 (bs (z0d a1))] (z1q r) (z1r a1 r)) (a0 : z00) (a1 : z09) (a2 : Bool) (r : z00) (h : z0u (n + 1) a0 a1 a2 = some r) : Cs Tryd.prog (GX X) 56 [xP 0 0, .agg (bs (z0d a1)), xB a2] [oB 70 [.row 1, .pv (.bool a0.f_form), .pv (.bool a0.f_deep), .pv (.int .i64 a0.f_blocks), .pv (.int .i64 a0.f_parens)], oR false 9 1 (List.map z0p a0.f_out)] (z1a r) (z1b r) := by
 refine fnT (cx := cx X) Tryd.f56 Tryd.call56 Tryd.func56 (by kernel_rfl) ?_
 rw [z0u] at h
 rcases iteE h with ⟨k1, h⟩ | ⟨k1, h⟩
 ·obtain ⟨v1, k2, h⟩ := z08 h
  obtain rfl := retE h
  exact fin (ok X) 9 [.b true, .s (z11 v1) (z12 v1)] (pA k1 (pA (ih_ast_writer_expr _ _ _ k2) pT)) (by kernel_rfl)
 ·obtain ⟨v2, k3, h⟩ := z08 h
  obtain ⟨v3, k4, h⟩ := z08 h
  obtain ⟨v4, k5, h⟩ := z08 h
  obtain rfl := retE h
  exact fin (ok X) 12 [.b false, .s (z04 v2) (z05 v2), .s (z0k v3) (z0l a1 v3), .s (z04 v4) (z05 v4)] (pA k1 (pA (z06 (X := X) k3) (pA (ih_ast_writer_deeper_ast_writer_kid_1 _ _ _ k4) (pA (z06 (X := X) k5) pT)))) (by kernel_rfl)

theorem z7n {n : Nat} (ih_ast_writer_expr : ∀ (a0 : z00) (a1 : z09) (r : z00), z0s n a0 a1 = some r → Cs Tryd.prog (GX X) 39 [xP 0 0, .agg (bs (z0d a1))] [oB 70 [.row 1, .pv (.bool a0.f_form), .pv (.bool a0.f_deep), .pv (.int .i64 a0.f_blocks), .pv (.int .i64 a0.f_parens)], oR false 9 1 (List.map z0p a0.f_out)] (z11 r) (z12 r)) (ih_ast_writer_deeper_ast_writer_expr_1 : ∀ (a0 : z00) (a1011 : z09) (r : z00), z0a n a0 a1011 = some r → Cs Tryd.prog (GX X) 54 [xP 0 0, .fn (.func 55) [] [.box 2 0, .box 3 0]] [oB 70 [.row 1, .pv (.bool a0.f_form), .pv (.bool a0.f_deep), .pv (.int .i64 a0.f_blocks), .pv (.int .i64 a0.f_parens)], oR false 9 1 (List.map z0p a0.f_out), oB 68 [.box 0 0], oB 102 (bs (z0d a1011))] (z0i r) (z0j a1011 r)) (ih_ast_writer_kid : ∀ (a0 : z00) (a1 : z09) (a2 : Bool) (r : z00), z0u n a0 a1 a2 = some r → Cs Tryd.prog (GX X) 56 [xP 0 0, .agg (bs (z0d a1)), xB a2] [oB 70 [.row 1, .pv (.bool a0.f_form), .pv (.bool a0.f_deep), .pv (.int .i64 a0.f_blocks), .pv (.int .i64 a0.f_parens)], oR false 9 1 (List.map z0p a0.f_out)] (z1a r) (z1b r)) (ih_ast_writer_expr_1 : ∀ (a0 : z00) (a1 : z09) (r : z00), z13 n a0 a1 = some r → Cs Tryd.prog (GX X) 55 [xP 0 0, xP 3 0] [oB 68 [.box 1 0], oB 70 [.row 2, .pv (.bool a0.f_form), .pv (.bool a0.f_deep), .pv (.int .i64 a0.f_blocks), .pv (.int .i64 a0.f_parens)], oR false 9 1 (List.map z0p a0.f_out), oB 102 (bs (z0d a1))] (z1m r) (z1n a1 r)) (ih_ast_writer_deeper_ast_writer_kid_1 : ∀ (a0 : z00) (a1011 : z09) (r : z00), z0c n a0 a1011 = some r → Cs Tryd.prog (GX X) 54 [xP 0 0, .fn (.func 74) [] [.box 2 0, .box 3 0]] [oB 70 [.row 1, .pv (.bool a0.f_form), .pv (.bool a0.f_deep), .pv (.int .i64 a0.f_blocks), .pv (.int .i64 a0.f_parens)], oR false 9 1 (List.map z0p a0.f_out), oB 68 [.box 0 0], oB 102 (bs (z0d a1011))] (z0k r) (z0l a1011 r)) (ih_ast_writer_kid_1 : ∀ (a0 : z00) (a1 : z09) (r : z00), z16 n a0 a1 = some r → Cs Tryd.prog (GX X) 74 [xP 0 0, xP 3 0] [oB 68 [.box 1 0], oB 70 [.row 2, .pv (.bool a0.f_form), .pv (.bool a0.f_deep), .pv (.int .i64 a0.f_blocks), .pv (.int .i64 a0.f_parens)], oR false 9 1 (List.map z0p a0.f_out), oB 102 (bs (z0d a1))] (z1q r) (z1r a1 r)) (a0 : z00) (a1 : z09) (r : z00) (h : z13 (n + 1) a0 a1 = some r) : Cs Tryd.prog (GX X) 55 [xP 0 0, xP 3 0] [oB 68 [.box 1 0], oB 70 [.row 2, .pv (.bool a0.f_form), .pv (.bool a0.f_deep), .pv (.int .i64 a0.f_blocks), .pv (.int .i64 a0.f_parens)], oR false 9 1 (List.map z0p a0.f_out), oB 102 (bs (z0d a1))] (z1m r) (z1n a1 r) := by
 refine fnT (cx := cx X) Tryd.f55 Tryd.call55 Tryd.func55 (by kernel_rfl) ?_
 rw [z13] at h
 obtain ⟨v1, k1, h⟩ := z08 h
 obtain ⟨v2, k2, h⟩ := z08 h
 obtain ⟨v3, k3, h⟩ := z08 h
 obtain rfl := retE h
 exact fin (ok X) 1 [.o [0, 1, 2, 3, 4, 5, 6, 7, 8, 9, 10, 11], .e (z0d v1), .e (z0d v1), .c (z5b v2), .s (z1a v3) (z1b v3)] (pA (ixr z3t k1) (pA (ixr z3t k1) (pA (z76 (X := X) k2) (pA (ih_ast_writer_kid _ _ _ _ k3) pT)))) (by kernel_rfl)

theorem z49 {n : Nat} (ih_ast_writer_expr : ∀ (a0 : z00) (a1 : z09) (r : z00), z0s n a0 a1 = some r → Cs Tryd.prog (GX X) 39 [xP 0 0, .agg (bs (z0d a1))] [oB 70 [.row 1, .pv (.bool a0.f_form), .pv (.bool a0.f_deep), .pv (.int .i64 a0.f_blocks), .pv (.int .i64 a0.f_parens)], oR false 9 1 (List.map z0p a0.f_out)] (z11 r) (z12 r)) (ih_ast_writer_deeper_ast_writer_expr_1 : ∀ (a0 : z00) (a1011 : z09) (r : z00), z0a n a0 a1011 = some r → Cs Tryd.prog (GX X) 54 [xP 0 0, .fn (.func 55) [] [.box 2 0, .box 3 0]] [oB 70 [.row 1, .pv (.bool a0.f_form), .pv (.bool a0.f_deep), .pv (.int .i64 a0.f_blocks), .pv (.int .i64 a0.f_parens)], oR false 9 1 (List.map z0p a0.f_out), oB 68 [.box 0 0], oB 102 (bs (z0d a1011))] (z0i r) (z0j a1011 r)) (ih_ast_writer_kid : ∀ (a0 : z00) (a1 : z09) (a2 : Bool) (r : z00), z0u n a0 a1 a2 = some r → Cs Tryd.prog (GX X) 56 [xP 0 0, .agg (bs (z0d a1)), xB a2] [oB 70 [.row 1, .pv (.bool a0.f_form), .pv (.bool a0.f_deep), .pv (.int .i64 a0.f_blocks), .pv (.int .i64 a0.f_parens)], oR false 9 1 (List.map z0p a0.f_out)] (z1a r) (z1b r)) (ih_ast_writer_expr_1 : ∀ (a0 : z00) (a1 : z09) (r : z00), z13 n a0 a1 = some r → Cs Tryd.prog (GX X) 55 [xP 0 0, xP 3 0] [oB 68 [.box 1 0], oB 70 [.row 2, .pv (.bool a0.f_form), .pv (.bool a0.f_deep), .pv (.int .i64 a0.f_blocks), .pv (.int .i64 a0.f_parens)], oR false 9 1 (List.map z0p a0.f_out), oB 102 (bs (z0d a1))] (z1m r) (z1n a1 r)) (ih_ast_writer_deeper_ast_writer_kid_1 : ∀ (a0 : z00) (a1011 : z09) (r : z00), z0c n a0 a1011 = some r → Cs Tryd.prog (GX X) 54 [xP 0 0, .fn (.func 74) [] [.box 2 0, .box 3 0]] [oB 70 [.row 1, .pv (.bool a0.f_form), .pv (.bool a0.f_deep), .pv (.int .i64 a0.f_blocks), .pv (.int .i64 a0.f_parens)], oR false 9 1 (List.map z0p a0.f_out), oB 68 [.box 0 0], oB 102 (bs (z0d a1011))] (z0k r) (z0l a1011 r)) (ih_ast_writer_kid_1 : ∀ (a0 : z00) (a1 : z09) (r : z00), z16 n a0 a1 = some r → Cs Tryd.prog (GX X) 74 [xP 0 0, xP 3 0] [oB 68 [.box 1 0], oB 70 [.row 2, .pv (.bool a0.f_form), .pv (.bool a0.f_deep), .pv (.int .i64 a0.f_blocks), .pv (.int .i64 a0.f_parens)], oR false 9 1 (List.map z0p a0.f_out), oB 102 (bs (z0d a1))] (z1q r) (z1r a1 r)) (a0 : z00) (a1011 : z09) (r : z00) (h : z0c (n + 1) a0 a1011 = some r) : Cs Tryd.prog (GX X) 54 [xP 0 0, .fn (.func 74) [] [.box 2 0, .box 3 0]] [oB 70 [.row 1, .pv (.bool a0.f_form), .pv (.bool a0.f_deep), .pv (.int .i64 a0.f_blocks), .pv (.int .i64 a0.f_parens)], oR false 9 1 (List.map z0p a0.f_out), oB 68 [.box 0 0], oB 102 (bs (z0d a1011))] (z0k r) (z0l a1011 r) := by
 refine fnT (cx := cx X) Tryd.f54 Tryd.call54 Tryd.func54 (by kernel_rfl) ?_
 rw [z0c] at h
 refine adv (ok X) 3 [] pT (by kernel_rfl) ?_
 refine jn (ok X) 1 (fun (j1 : Bool) => ⟨34, 4, [(0, [xP 0 0]), (1, [.fn (.func 74) [] [.box 2 0, .box 3 0]])], [oB 70 [.row 1, .pv (.bool a0.f_form), .pv (.bool j1), .pv (.int .i64 a0.f_blocks), .pv (.int .i64 (IntKind.i64.wrap (a0.f_parens + 1)))], oR false 9 1 (List.map z0p a0.f_out), oB 68 [.box 0 0], oB 102 (bs (z0d a1011))]⟩) h (fun j1 h => ?_) (fun j1 h => ?_)
 ·rcases iteE h with ⟨k1, h⟩ | ⟨k1, h⟩
  ·obtain rfl := retE h
   exact fin (ok X) 1 (bT 6 []) (pR 6 k1 pT) (by kernel_rfl)
  ·obtain rfl := retE h
   exact fin (ok X) 1 (bF 6 []) (pR 6 k1 pT) (by kernel_rfl)
 ·obtain ⟨v1, k2, h⟩ := z08 h
  obtain rfl := retE h
  exact fin (ok X) 3 [.s (z1q v1) (z1r a1011 v1)] (pA (ih_ast_writer_kid_1 _ _ _ k2) pT) (by kernel_rfl)

theorem z86 {n : Nat} (ih_ast_writer_expr : ∀ (a0 : z00) (a1 : z09) (r : z00), z0s n a0 a1 = some r → Cs Tryd.prog (GX X) 39 [xP 0 0, .agg (bs (z0d a1))] [oB 70 [.row 1, .pv (.bool a0.f_form), .pv (.bool a0.f_deep), .pv (.int .i64 a0.f_blocks), .pv (.int .i64 a0.f_parens)], oR false 9 1 (List.map z0p a0.f_out)] (z11 r) (z12 r)) (ih_ast_writer_deeper_ast_writer_expr_1 : ∀ (a0 : z00) (a1011 : z09) (r : z00), z0a n a0 a1011 = some r → Cs Tryd.prog (GX X) 54 [xP 0 0, .fn (.func 55) [] [.box 2 0, .box 3 0]] [oB 70 [.row 1, .pv (.bool a0.f_form), .pv (.bool a0.f_deep), .pv (.int .i64 a0.f_blocks), .pv (.int .i64 a0.f_parens)], oR false 9 1 (List.map z0p a0.f_out), oB 68 [.box 0 0], oB 102 (bs (z0d a1011))] (z0i r) (z0j a1011 r)) (ih_ast_writer_kid : ∀ (a0 : z00) (a1 : z09) (a2 : Bool) (r : z00), z0u n a0 a1 a2 = some r → Cs Tryd.prog (GX X) 56 [xP 0 0, .agg (bs (z0d a1)), xB a2] [oB 70 [.row 1, .pv (.bool a0.f_form), .pv (.bool a0.f_deep), .pv (.int .i64 a0.f_blocks), .pv (.int .i64 a0.f_parens)], oR false 9 1 (List.map z0p a0.f_out)] (z1a r) (z1b r)) (ih_ast_writer_expr_1 : ∀ (a0 : z00) (a1 : z09) (r : z00), z13 n a0 a1 = some r → Cs Tryd.prog (GX X) 55 [xP 0 0, xP 3 0] [oB 68 [.box 1 0], oB 70 [.row 2, .pv (.bool a0.f_form), .pv (.bool a0.f_deep), .pv (.int .i64 a0.f_blocks), .pv (.int .i64 a0.f_parens)], oR false 9 1 (List.map z0p a0.f_out), oB 102 (bs (z0d a1))] (z1m r) (z1n a1 r)) (ih_ast_writer_deeper_ast_writer_kid_1 : ∀ (a0 : z00) (a1011 : z09) (r : z00), z0c n a0 a1011 = some r → Cs Tryd.prog (GX X) 54 [xP 0 0, .fn (.func 74) [] [.box 2 0, .box 3 0]] [oB 70 [.row 1, .pv (.bool a0.f_form), .pv (.bool a0.f_deep), .pv (.int .i64 a0.f_blocks), .pv (.int .i64 a0.f_parens)], oR false 9 1 (List.map z0p a0.f_out), oB 68 [.box 0 0], oB 102 (bs (z0d a1011))] (z0k r) (z0l a1011 r)) (ih_ast_writer_kid_1 : ∀ (a0 : z00) (a1 : z09) (r : z00), z16 n a0 a1 = some r → Cs Tryd.prog (GX X) 74 [xP 0 0, xP 3 0] [oB 68 [.box 1 0], oB 70 [.row 2, .pv (.bool a0.f_form), .pv (.bool a0.f_deep), .pv (.int .i64 a0.f_blocks), .pv (.int .i64 a0.f_parens)], oR false 9 1 (List.map z0p a0.f_out), oB 102 (bs (z0d a1))] (z1q r) (z1r a1 r)) (a0 : z00) (a1 : z09) (r : z00) (h : z16 (n + 1) a0 a1 = some r) : Cs Tryd.prog (GX X) 74 [xP 0 0, xP 3 0] [oB 68 [.box 1 0], oB 70 [.row 2, .pv (.bool a0.f_form), .pv (.bool a0.f_deep), .pv (.int .i64 a0.f_blocks), .pv (.int .i64 a0.f_parens)], oR false 9 1 (List.map z0p a0.f_out), oB 102 (bs (z0d a1))] (z1q r) (z1r a1 r) := by
 refine fnT (cx := cx X) Tryd.f74 Tryd.call74 Tryd.func74 (by kernel_rfl) ?_
 rw [z16] at h
 obtain ⟨v1, k1, h⟩ := z08 h
 obtain rfl := retE h
 exact fin (ok X) 1 [.s (z11 v1) (z12 v1)] (pA (ih_ast_writer_expr _ _ _ k1) pT) (by kernel_rfl)

theorem z5k : ∀ n : Nat, (∀ (a0 : z00) (a1 : z09) (r : z00), z0s n a0 a1 = some r → Cs Tryd.prog (GX X) 39 [xP 0 0, .agg (bs (z0d a1))] [oB 70 [.row 1, .pv (.bool a0.f_form), .pv (.bool a0.f_deep), .pv (.int .i64 a0.f_blocks), .pv (.int .i64 a0.f_parens)], oR false 9 1 (List.map z0p a0.f_out)] (z11 r) (z12 r)) ∧ (∀ (a0 : z00) (a1011 : z09) (r : z00), z0a n a0 a1011 = some r → Cs Tryd.prog (GX X) 54 [xP 0 0, .fn (.func 55) [] [.box 2 0, .box 3 0]] [oB 70 [.row 1, .pv (.bool a0.f_form), .pv (.bool a0.f_deep), .pv (.int .i64 a0.f_blocks), .pv (.int .i64 a0.f_parens)], oR false 9 1 (List.map z0p a0.f_out), oB 68 [.box 0 0], oB 102 (bs (z0d a1011))] (z0i r) (z0j a1011 r)) ∧ (∀ (a0 : z00) (a1 : z09) (a2 : Bool) (r : z00), z0u n a0 a1 a2 = some r → Cs Tryd.prog (GX X) 56 [xP 0 0, .agg (bs (z0d a1)), xB a2] [oB 70 [.row 1, .pv (.bool a0.f_form), .pv (.bool a0.f_deep), .pv (.int .i64 a0.f_blocks), .pv (.int .i64 a0.f_parens)], oR false 9 1 (List.map z0p a0.f_out)] (z1a r) (z1b r)) ∧ (∀ (a0 : z00) (a1 : z09) (r : z00), z13 n a0 a1 = some r → Cs Tryd.prog (GX X) 55 [xP 0 0, xP 3 0] [oB 68 [.box 1 0], oB 70 [.row 2, .pv (.bool a0.f_form), .pv (.bool a0.f_deep), .pv (.int .i64 a0.f_blocks), .pv (.int .i64 a0.f_parens)], oR false 9 1 (List.map z0p a0.f_out), oB 102 (bs (z0d a1))] (z1m r) (z1n a1 r)) ∧ (∀ (a0 : z00) (a1011 : z09) (r : z00), z0c n a0 a1011 = some r → Cs Tryd.prog (GX X) 54 [xP 0 0, .fn (.func 74) [] [.box 2 0, .box 3 0]] [oB 70 [.row 1, .pv (.bool a0.f_form), .pv (.bool a0.f_deep), .pv (.int .i64 a0.f_blocks), .pv (.int .i64 a0.f_parens)], oR false 9 1 (List.map z0p a0.f_out), oB 68 [.box 0 0], oB 102 (bs (z0d a1011))] (z0k r) (z0l a1011 r)) ∧ (∀ (a0 : z00) (a1 : z09) (r : z00), z16 n a0 a1 = some r → Cs Tryd.prog (GX X) 74 [xP 0 0, xP 3 0] [oB 68 [.box 1 0], oB 70 [.row 2, .pv (.bool a0.f_form), .pv (.bool a0.f_deep), .pv (.int .i64 a0.f_blocks), .pv (.int .i64 a0.f_parens)], oR false 9 1 (List.map z0p a0.f_out), oB 102 (bs (z0d a1))] (z1q r) (z1r a1 r))
 | 0 => ⟨(fun _ _ _ h => by rw [z0s] at h; cases h), (fun _ _ _ h => by rw [z0a] at h; cases h), (fun _ _ _ _ h => by rw [z0u] at h; cases h), (fun _ _ _ h => by rw [z13] at h; cases h), (fun _ _ _ h => by rw [z0c] at h; cases h), (fun _ _ _ h => by rw [z16] at h; cases h)⟩
 | n + 1 => by
  have ih := z5k n
  exact ⟨z90 ih.1 ih.2.1 ih.2.2.1 ih.2.2.2.1 ih.2.2.2.2.1 ih.2.2.2.2.2, z42 ih.1 ih.2.1 ih.2.2.1 ih.2.2.2.1 ih.2.2.2.2.1 ih.2.2.2.2.2, z9e ih.1 ih.2.1 ih.2.2.1 ih.2.2.2.1 ih.2.2.2.2.1 ih.2.2.2.2.2, z7n ih.1 ih.2.1 ih.2.2.1 ih.2.2.2.1 ih.2.2.2.2.1 ih.2.2.2.2.2, z49 ih.1 ih.2.1 ih.2.2.1 ih.2.2.2.1 ih.2.2.2.2.1 ih.2.2.2.2.2, z86 ih.1 ih.2.1 ih.2.2.1 ih.2.2.2.1 ih.2.2.2.2.1 ih.2.2.2.2.2⟩

theorem z3c {a0 : z00} {a1 : z09} {r : z00} (h : z2s a0 a1 = some r) : Cs Tryd.prog (GX X) 39 [xP 0 0, .agg (bs (z0d a1))] [oB 70 [.row 1, .pv (.bool a0.f_form), .pv (.bool a0.f_deep), .pv (.int .i64 a0.f_blocks), .pv (.int .i64 a0.f_parens)], oR false 9 1 (List.map z0p a0.f_out)] (z11 r) (z12 r) := by
 obtain ⟨n, hn⟩ := unfE h
 exact (z5k n).1 _ _ _ hn

theorem z4w {a0 : z00} {a1 : z31} {r : z00} (h : z2t a0 a1 = some r) : Cs Tryd.prog (GX X) 40 [xP 0 0, .agg (bs (z8p a1))] [oB 70 [.row 1, .pv (.bool a0.f_form), .pv (.bool a0.f_deep), .pv (.int .i64 a0.f_blocks), .pv (.int .i64 a0.f_parens)], oR false 9 1 (List.map z0p a0.f_out)] (z3y r) (z3z r) := by
 refine fnT (cx := cx X) Tryd.f40 Tryd.call40 Tryd.func40 (by kernel_rfl) ?_
 unfold z2t at h
 obtain ⟨v1, k1, h⟩ := z08 h
 obtain ⟨v2, k2, h⟩ := z08 h
 refine adv (ok X) 8 [.s (z04 v1) (z05 v1), .s (z11 v2) (z12 v2)] (pA (z06 (X := X) k1) (pA (z3c (X := X) k2) pT)) (by kernel_rfl) ?_
 refine jn (ok X) 1 (fun (j1 : Bool) => ⟨36, 2, [(0, [xP 0 0]), (3, [xP 2 0]), (18, [xB j1])], [oB 70 [.row 1, .pv (.bool v2.f_form), .pv (.bool v2.f_deep), .pv (.int .i64 v2.f_blocks), .pv (.int .i64 v2.f_parens)], oR true 9 1 (List.map z0p v2.f_out), oB 105 (bs (z8p a1))]⟩) h (fun j1 h => ?_) (fun j1 h => ?_)
 ·rcases iteE h with ⟨k3, h⟩ | ⟨k3, h⟩
  ·obtain rfl := retE h
   exact fin (ok X) 1 (bT 4 []) (pR 4 k3 pT) (by kernel_rfl)
  ·obtain rfl := retE h
   exact fin (ok X) 1 (bF 4 []) (pR 4 k3 pT) (by kernel_rfl)
 ·rcases iteE h with ⟨k4, h⟩ | ⟨k4, h⟩
  ·obtain ⟨v3, k5, h⟩ := z08 h
   obtain ⟨v4, k6, h⟩ := z08 h
   obtain ⟨v5, k7, h⟩ := z08 h
   obtain rfl := retE h
   exact fin (ok X) 5 [.b true, .s (z14 v3) (z15 v3), .s (z11 v4) (z12 v4), .s (z04 v5) (z05 v5)] (pA k4 (pA (z17 (X := X) k5) (pA (z3c (X := X) k6) (pA (z06 (X := X) k7) pT)))) (by kernel_rfl)
  ·obtain ⟨v6, k8, h⟩ := z08 h
   obtain ⟨v7, k9, h⟩ := z08 h
   obtain ⟨v8, k10, h⟩ := z08 h
   obtain ⟨v9, k11, h⟩ := z08 h
   obtain rfl := retE h
   exact fin (ok X) 5 [.b false, .e [.str v6], .s (z04 v7) (z05 v7), .s (z11 v8) (z12 v8), .s (z04 v9) (z05 v9)] (pA k4 (pA (ixm z0p k8) (pA (z06 (X := X) k9) (pA (z3c (X := X) k10) (pA (z06 (X := X) k11) pT))))) (by kernel_rfl)

theorem z87 {n : Nat} (ih_ast_writer_stmts : ∀ (a0 : z00) (a1 : (List z07)) (r : z00), z0t n a0 a1 = some r → Cs Tryd.prog (GX X) 21 [xP 0 0, xL (List.map z0r a1)] [oB 70 [.row 1, .pv (.bool a0.f_form), .pv (.bool a0.f_deep), .pv (.int .i64 a0.f_blocks), .pv (.int .i64 a0.f_parens)], oR false 9 1 (List.map z0p a0.f_out)] (z1h r) (z1i r)) (ih_ast_writer_stmt : ∀ (a0 : z00) (a1 : z07) (r : z00), z0w n a0 a1 = some r → Cs Tryd.prog (GX X) 32 [xP 0 0, .agg (bs (z4n a1))] [oB 70 [.row 1, .pv (.bool a0.f_form), .pv (.bool a0.f_deep), .pv (.int .i64 a0.f_blocks), .pv (.int .i64 a0.f_parens)], oR false 9 1 (List.map z0p a0.f_out)] (z2g r) (z2h r)) (ih_ast_writer_block : ∀ (a0 : z00) (a1 : (List z07)) (r : z00), z0o n a0 a1 = some r → Cs Tryd.prog (GX X) 41 [xP 0 0, xL (List.map z0r a1)] [oB 70 [.row 1, .pv (.bool a0.f_form), .pv (.bool a0.f_deep), .pv (.int .i64 a0.f_blocks), .pv (.int .i64 a0.f_parens)], oR false 9 1 (List.map z0p a0.f_out)] (z1j r) (z1k r)) (ih_ast_writer_arms : ∀ (a0 : z00) (a1 : (List z1c)) (r : z00), z0y n a0 a1 = some r → Cs Tryd.prog (GX X) 42 [xP 0 0, xL (List.map z1w a1)] [oB 70 [.row 1, .pv (.bool a0.f_form), .pv (.bool a0.f_deep), .pv (.int .i64 a0.f_blocks), .pv (.int .i64 a0.f_parens)], oR false 9 1 (List.map z0p a0.f_out)] (z24 r) (z25 r)) (a0 : z00) (a1 : (List z07)) (r : z00) (h : z0t (n + 1) a0 a1 = some r) : Cs Tryd.prog (GX X) 21 [xP 0 0, xL (List.map z0r a1)] [oB 70 [.row 1, .pv (.bool a0.f_form), .pv (.bool a0.f_deep), .pv (.int .i64 a0.f_blocks), .pv (.int .i64 a0.f_parens)], oR false 9 1 (List.map z0p a0.f_out)] (z1h r) (z1i r) := by
 refine fnT (cx := cx X) Tryd.f21 Tryd.call21 Tryd.func21 (by kernel_rfl) ?_
 rw [z0t] at h
 refine adv (ok X) 2 [.i (a1.length : Int)] (pA (lm z0r a1) pT) (by kernel_rfl) ?_
 refine lp (ok X) (z1z (z0t n) (z0w n) (z0o n) (z0y n) a1) (fun (x1 : (Int × Bool × Bool × Int × Int × (List ByteArray))) => ⟨16, 2, [(0, [xP 0 0]), (6, [xL (List.map z0r a1)]), (7, [xI (a1.length : Int)]), (8, [xI x1.1])], [oB 70 [.row 1, .pv (.bool x1.2.1), .pv (.bool x1.2.2.1), .pv (.int .i64 x1.2.2.2.1), .pv (.int .i64 x1.2.2.2.2.1)], oR true 9 1 (List.map z0p x1.2.2.2.2.2)]⟩) (fun (j1 : (Bool × Bool × Int × Int × (List ByteArray))) => ⟨16, 2, [], [oB 70 [.row 1, .pv (.bool j1.1), .pv (.bool j1.2.1), .pv (.int .i64 j1.2.2.1), .pv (.int .i64 j1.2.2.2.1)], oR true 9 1 (List.map z0p j1.2.2.2.2)]⟩) z83 (0, a0.f_form, a0.f_deep, a0.f_blocks, a0.f_parens, a0.f_out) (fun _ => ⟨_, _, _, _, rfl⟩) h (by kernel_rfl) (fun x1 o h => ?_) (fun r' h => ?_) (fun j1 h => ?_)
 ·unfold z1z at h
  rcases iteE h with ⟨k1, h⟩ | ⟨k1, h⟩
  ·obtain ⟨v1, k2, h⟩ := z08 h
   obtain ⟨v2, k3, h⟩ := z08 h
   obtain rfl := retE h
   exact fin (ok X) 12 [.b true, .e (z4n v1), .s (z2g v2) (z2h v2)] (pA k1 (pA (ixr z68 k2) (pA (ih_ast_writer_stmt _ _ _ k3) pT))) (by kernel_rfl)
  ·obtain rfl := retE h
   exact fin (ok X) 5 [.b false] (pA k1 pT) (by kernel_rfl)
 ·cases h
 ·obtain rfl := retE h
  exact fin (ok X) 0 [] pT (by kernel_rfl)

theorem z91 {n : Nat} (ih_ast_writer_stmts : ∀ (a0 : z00) (a1 : (List z07)) (r : z00), z0t n a0 a1 = some r → Cs Tryd.prog (GX X) 21 [xP 0 0, xL (List.map z0r a1)] [oB 70 [.row 1, .pv (.bool a0.f_form), .pv (.bool a0.f_deep), .pv (.int .i64 a0.f_blocks), .pv (.int .i64 a0.f_parens)], oR false 9 1 (List.map z0p a0.f_out)] (z1h r) (z1i r)) (ih_ast_writer_stmt : ∀ (a0 : z00) (a1 : z07) (r : z00), z0w n a0 a1 = some r → Cs Tryd.prog (GX X) 32 [xP 0 0, .agg (bs (z4n a1))] [oB 70 [.row 1, .pv (.bool a0.f_form), .pv (.bool a0.f_deep), .pv (.int .i64 a0.f_blocks), .pv (.int .i64 a0.f_parens)], oR false 9 1 (List.map z0p a0.f_out)] (z2g r) (z2h r)) (ih_ast_writer_block : ∀ (a0 : z00) (a1 : (List z07)) (r : z00), z0o n a0 a1 = some r → Cs Tryd.prog (GX X) 41 [xP 0 0, xL (List.map z0r a1)] [oB 70 [.row 1, .pv (.bool a0.f_form), .pv (.bool a0.f_deep), .pv (.int .i64 a0.f_blocks), .pv (.int .i64 a0.f_parens)], oR false 9 1 (List.map z0p a0.f_out)] (z1j r) (z1k r)) (ih_ast_writer_arms : ∀ (a0 : z00) (a1 : (List z1c)) (r : z00), z0y n a0 a1 = some r → Cs Tryd.prog (GX X) 42 [xP 0 0, xL (List.map z1w a1)] [oB 70 [.row 1, .pv (.bool a0.f_form), .pv (.bool a0.f_deep), .pv (.int .i64 a0.f_blocks), .pv (.int .i64 a0.f_parens)], oR false 9 1 (List.map z0p a0.f_out)] (z24 r) (z25 r)) (a0 : z00) (a1 : z07) (r : z00) (h : z0w (n + 1) a0 a1 = some r) : Cs Tryd.prog (GX X) 32 [xP 0 0, .agg (bs (z4n a1))] [oB 70 [.row 1, .pv (.bool a0.f_form), .pv (.bool a0.f_deep), .pv (.int .i64 a0.f_blocks), .pv (.int .i64 a0.f_parens)], oR false 9 1 (List.map z0p a0.f_out)] (z2g r) (z2h r) := by
 refine fnT (cx := cx X) Tryd.f32 Tryd.call32 Tryd.func32 (by kernel_rfl) ?_
 rw [z0w] at h
 rcases iteE h with ⟨k1, h⟩ | ⟨k1, h⟩
 ·obtain ⟨v1, k2, h⟩ := z08 h
  obtain ⟨v2, k3, h⟩ := z08 h
  obtain ⟨v3, k4, h⟩ := z08 h
  obtain ⟨v4, k5, h⟩ := z08 h
  obtain rfl := retE h
  exact fin (ok X) 16 [.b true, .s (z0m v1) (z0n v1), .s (z04 v2) (z05 v2), .s (z11 v3) (z12 v3), .s (z04 v4) (z05 v4)] (pA k1 (pA (z0q (X := X) k2) (pA (z06 (X := X) k3) (pA (z3c (X := X) k4) (pA (z06 (X := X) k5) pT))))) (by kernel_rfl)
 ·refine adv (ok X) 10 [.b false] (pA k1 pT) (by kernel_rfl) ?_
  rcases iteE h with ⟨k6, h⟩ | ⟨k6, h⟩
  ·obtain ⟨v5, k7, h⟩ := z08 h
   obtain ⟨v6, k8, h⟩ := z08 h
   obtain ⟨v7, k9, h⟩ := z08 h
   refine adv (ok X) 9 [.b true, .s (z04 v5) (z05 v5), .s (z3y v6) (z3z v6), .s (z1j v7) (z1k v7), .i (a1.Else.length : Int)] (pA k6 (pA (z06 (X := X) k7) (pA (z4w (X := X) k8) (pA (ih_ast_writer_block _ _ _ k9) (pA (lm z0r a1.Else) pT))))) (by kernel_rfl) ?_
   rcases iteE h with ⟨k10, h⟩ | ⟨k10, h⟩
   ·obtain ⟨v8, k11, h⟩ := z08 h
    obtain ⟨v9, k12, h⟩ := z08 h
    obtain rfl := retE h
    exact fin (ok X) 5 [.b true, .s (z04 v8) (z05 v8), .s (z1j v9) (z1k v9)] (pA k10 (pA (z06 (X := X) k11) (pA (ih_ast_writer_block _ _ _ k12) pT))) (by kernel_rfl)
   ·obtain rfl := retE h
    exact fin (ok X) 3 [.b false] (pA k10 pT) (by kernel_rfl)
  ·refine adv (ok X) 3 [.b false] (pA k6 pT) (by kernel_rfl) ?_
   rcases iteE h with ⟨k13, h⟩ | ⟨k13, h⟩
   ·obtain ⟨v10, k14, h⟩ := z08 h
    obtain ⟨v11, k15, h⟩ := z08 h
    obtain ⟨v12, k16, h⟩ := z08 h
    obtain rfl := retE h
    exact fin (ok X) 7 [.b true, .s (z04 v10) (z05 v10), .s (z3y v11) (z3z v11), .s (z1j v12) (z1k v12)] (pA k13 (pA (z06 (X := X) k14) (pA (z4w (X := X) k15) (pA (ih_ast_writer_block _ _ _ k16) pT)))) (by kernel_rfl)
   ·refine adv (ok X) 3 [.b false] (pA k13 pT) (by kernel_rfl) ?_
    rcases iteE h with ⟨k17, h⟩ | ⟨k17, h⟩
    ·obtain ⟨v13, k18, h⟩ := z08 h
     obtain ⟨v14, k19, h⟩ := z08 h
     obtain ⟨v15, k20, h⟩ := z08 h
     obtain ⟨v16, k21, h⟩ := z08 h
     obtain ⟨v17, k22, h⟩ := z08 h
     obtain ⟨v18, k23, h⟩ := z08 h
     obtain ⟨v19, k24, h⟩ := z08 h
     obtain rfl := retE h
     exact fin (ok X) 15 [.b true, .s (z04 v13) (z05 v13), .s (z0m v14) (z0n v14), .s (z04 v15) (z05 v15), .s (z0m v16) (z0n v16), .s (z04 v17) (z05 v17), .s (z11 v18) (z12 v18), .s (z04 v19) (z05 v19)] (pA k17 (pA (z06 (X := X) k18) (pA (z0q (X := X) k19) (pA (z06 (X := X) k20) (pA (z0q (X := X) k21) (pA (z06 (X := X) k22) (pA (z3c (X := X) k23) (pA (z06 (X := X) k24) pT)))))))) (by kernel_rfl)
    ·refine adv (ok X) 3 [.b false] (pA k17 pT) (by kernel_rfl) ?_
     rcases iteE h with ⟨k25, h⟩ | ⟨k25, h⟩
     ·obtain ⟨v20, k26, h⟩ := z08 h
      obtain ⟨v21, k27, h⟩ := z08 h
      obtain ⟨v22, k28, h⟩ := z08 h
      obtain rfl := retE h
      exact fin (ok X) 7 [.b true, .s (z04 v20) (z05 v20), .s (z0m v21) (z0n v21), .s (z24 v22) (z25 v22)] (pA k25 (pA (z06 (X := X) k26) (pA (z0q (X := X) k27) (pA (ih_ast_writer_arms _ _ _ k28) pT)))) (by kernel_rfl)
     ·refine adv (ok X) 3 [.b false] (pA k25 pT) (by kernel_rfl) ?_
      rcases iteE h with ⟨k29, h⟩ | ⟨k29, h⟩
      ·obtain ⟨v23, k30, h⟩ := z08 h
       obtain ⟨v24, k31, h⟩ := z08 h
       obtain ⟨v25, k32, h⟩ := z08 h
       obtain rfl := retE h
       exact fin (ok X) 7 [.b true, .s (z04 v23) (z05 v23), .s (z3y v24) (z3z v24), .s (z04 v25) (z05 v25)] (pA k29 (pA (z06 (X := X) k30) (pA (z4w (X := X) k31) (pA (z06 (X := X) k32) pT)))) (by kernel_rfl)
      ·refine adv (ok X) 3 [.b false] (pA k29 pT) (by kernel_rfl) ?_
       rcases iteE h with ⟨k33, h⟩ | ⟨k33, h⟩
       ·obtain ⟨v26, k34, h⟩ := z08 h
        obtain ⟨v27, k35, h⟩ := z08 h
        obtain ⟨v28, k36, h⟩ := z08 h
        obtain rfl := retE h
        exact fin (ok X) 7 [.b true, .s (z04 v26) (z05 v26), .s (z0m v27) (z0n v27), .s (z04 v28) (z05 v28)] (pA k33 (pA (z06 (X := X) k34) (pA (z0q (X := X) k35) (pA (z06 (X := X) k36) pT)))) (by kernel_rfl)
       ·obtain ⟨v29, k37, h⟩ := z08 h
        obtain rfl := retE h
        exact fin (ok X) 3 [.b false, .s (z14 v29) (z15 v29)] (pA k33 (pA (z17 (X := X) k37) pT)) (by kernel_rfl)

theorem z88 {n : Nat} (ih_ast_writer_stmts : ∀ (a0 : z00) (a1 : (List z07)) (r : z00), z0t n a0 a1 = some r → Cs Tryd.prog (GX X) 21 [xP 0 0, xL (List.map z0r a1)] [oB 70 [.row 1, .pv (.bool a0.f_form), .pv (.bool a0.f_deep), .pv (.int .i64 a0.f_blocks), .pv (.int .i64 a0.f_parens)], oR false 9 1 (List.map z0p a0.f_out)] (z1h r) (z1i r)) (ih_ast_writer_stmt : ∀ (a0 : z00) (a1 : z07) (r : z00), z0w n a0 a1 = some r → Cs Tryd.prog (GX X) 32 [xP 0 0, .agg (bs (z4n a1))] [oB 70 [.row 1, .pv (.bool a0.f_form), .pv (.bool a0.f_deep), .pv (.int .i64 a0.f_blocks), .pv (.int .i64 a0.f_parens)], oR false 9 1 (List.map z0p a0.f_out)] (z2g r) (z2h r)) (ih_ast_writer_block : ∀ (a0 : z00) (a1 : (List z07)) (r : z00), z0o n a0 a1 = some r → Cs Tryd.prog (GX X) 41 [xP 0 0, xL (List.map z0r a1)] [oB 70 [.row 1, .pv (.bool a0.f_form), .pv (.bool a0.f_deep), .pv (.int .i64 a0.f_blocks), .pv (.int .i64 a0.f_parens)], oR false 9 1 (List.map z0p a0.f_out)] (z1j r) (z1k r)) (ih_ast_writer_arms : ∀ (a0 : z00) (a1 : (List z1c)) (r : z00), z0y n a0 a1 = some r → Cs Tryd.prog (GX X) 42 [xP 0 0, xL (List.map z1w a1)] [oB 70 [.row 1, .pv (.bool a0.f_form), .pv (.bool a0.f_deep), .pv (.int .i64 a0.f_blocks), .pv (.int .i64 a0.f_parens)], oR false 9 1 (List.map z0p a0.f_out)] (z24 r) (z25 r)) (a0 : z00) (a1 : (List z07)) (r : z00) (h : z0o (n + 1) a0 a1 = some r) : Cs Tryd.prog (GX X) 41 [xP 0 0, xL (List.map z0r a1)] [oB 70 [.row 1, .pv (.bool a0.f_form), .pv (.bool a0.f_deep), .pv (.int .i64 a0.f_blocks), .pv (.int .i64 a0.f_parens)], oR false 9 1 (List.map z0p a0.f_out)] (z1j r) (z1k r) := by
 refine fnT (cx := cx X) Tryd.f41 Tryd.call41 Tryd.func41 (by kernel_rfl) ?_
 rw [z0o] at h
 obtain ⟨v1, k1, h⟩ := z08 h
 refine adv (ok X) 5 [.s (z04 v1) (z05 v1)] (pA (z06 (X := X) k1) pT) (by kernel_rfl) ?_
 refine jn (ok X) 1 (fun (j1 : Bool) => ⟨41, 2, [(0, [xP 0 0]), (1, [xL (List.map z0r a1)])], [oB 70 [.row 1, .pv (.bool v1.f_form), .pv (.bool j1), .pv (.int .i64 (IntKind.i64.wrap (v1.f_blocks + 1))), .pv (.int .i64 v1.f_parens)], oR true 9 1 (List.map z0p v1.f_out)]⟩) h (fun j1 h => ?_) (fun j1 h => ?_)
 ·rcases iteE h with ⟨k2, h⟩ | ⟨k2, h⟩
  ·obtain rfl := retE h
   exact fin (ok X) 1 (bT 6 []) (pR 6 k2 pT) (by kernel_rfl)
  ·obtain rfl := retE h
   exact fin (ok X) 1 (bF 6 []) (pR 6 k2 pT) (by kernel_rfl)
 ·obtain ⟨v2, k3, h⟩ := z08 h
  obtain ⟨v3, k4, h⟩ := z08 h
  obtain rfl := retE h
  exact fin (ok X) 5 [.s (z1h v2) (z1i v2), .s (z04 v3) (z05 v3)] (pA (ih_ast_writer_stmts _ _ _ k3) (pA (z06 (X := X) k4) pT)) (by kernel_rfl)

theorem z92 {n : Nat} (ih_ast_writer_stmts : ∀ (a0 : z00) (a1 : (List z07)) (r : z00), z0t n a0 a1 = some r → Cs Tryd.prog (GX X) 21 [xP 0 0, xL (List.map z0r a1)] [oB 70 [.row 1, .pv (.bool a0.f_form), .pv (.bool a0.f_deep), .pv (.int .i64 a0.f_blocks), .pv (.int .i64 a0.f_parens)], oR false 9 1 (List.map z0p a0.f_out)] (z1h r) (z1i r)) (ih_ast_writer_stmt : ∀ (a0 : z00) (a1 : z07) (r : z00), z0w n a0 a1 = some r → Cs Tryd.prog (GX X) 32 [xP 0 0, .agg (bs (z4n a1))] [oB 70 [.row 1, .pv (.bool a0.f_form), .pv (.bool a0.f_deep), .pv (.int .i64 a0.f_blocks), .pv (.int .i64 a0.f_parens)], oR false 9 1 (List.map z0p a0.f_out)] (z2g r) (z2h r)) (ih_ast_writer_block : ∀ (a0 : z00) (a1 : (List z07)) (r : z00), z0o n a0 a1 = some r → Cs Tryd.prog (GX X) 41 [xP 0 0, xL (List.map z0r a1)] [oB 70 [.row 1, .pv (.bool a0.f_form), .pv (.bool a0.f_deep), .pv (.int .i64 a0.f_blocks), .pv (.int .i64 a0.f_parens)], oR false 9 1 (List.map z0p a0.f_out)] (z1j r) (z1k r)) (ih_ast_writer_arms : ∀ (a0 : z00) (a1 : (List z1c)) (r : z00), z0y n a0 a1 = some r → Cs Tryd.prog (GX X) 42 [xP 0 0, xL (List.map z1w a1)] [oB 70 [.row 1, .pv (.bool a0.f_form), .pv (.bool a0.f_deep), .pv (.int .i64 a0.f_blocks), .pv (.int .i64 a0.f_parens)], oR false 9 1 (List.map z0p a0.f_out)] (z24 r) (z25 r)) (a0 : z00) (a1 : (List z1c)) (r : z00) (h : z0y (n + 1) a0 a1 = some r) : Cs Tryd.prog (GX X) 42 [xP 0 0, xL (List.map z1w a1)] [oB 70 [.row 1, .pv (.bool a0.f_form), .pv (.bool a0.f_deep), .pv (.int .i64 a0.f_blocks), .pv (.int .i64 a0.f_parens)], oR false 9 1 (List.map z0p a0.f_out)] (z24 r) (z25 r) := by
 refine fnT (cx := cx X) Tryd.f42 Tryd.call42 Tryd.func42 (by kernel_rfl) ?_
 rw [z0y] at h
 obtain ⟨v1, k1, h⟩ := z08 h
 obtain ⟨v2, k2, h⟩ := z08 h
 refine adv (ok X) 7 [.i (a1.length : Int), .s (z14 v1) (z15 v1), .s (z04 v2) (z05 v2), .i (a1.length : Int)] (pA (lm z1w a1) (pA (z17 (X := X) k1) (pA (z06 (X := X) k2) (pA (lm z1w a1) pT)))) (by kernel_rfl) ?_
 refine lp (ok X) (z2a (z0t n) (z0w n) (z0o n) (z0y n) a1) (fun (x1 : (Int × Bool × Bool × Int × Int × (List ByteArray))) => ⟨42, 2, [(0, [xP 0 0]), (14, [xL (List.map z1w a1)]), (15, [xI (a1.length : Int)]), (16, [xI x1.1])], [oB 70 [.row 1, .pv (.bool x1.2.1), .pv (.bool x1.2.2.1), .pv (.int .i64 x1.2.2.2.1), .pv (.int .i64 x1.2.2.2.2.1)], oR true 9 1 (List.map z0p x1.2.2.2.2.2)]⟩) (fun (j1 : (Bool × Bool × Int × Int × (List ByteArray))) => ⟨42, 2, [(0, [xP 0 0])], [oB 70 [.row 1, .pv (.bool j1.1), .pv (.bool j1.2.1), .pv (.int .i64 j1.2.2.1), .pv (.int .i64 j1.2.2.2.1)], oR true 9 1 (List.map z0p j1.2.2.2.2)]⟩) z8v (0, v2.f_form, v2.f_deep, v2.f_blocks, v2.f_parens, v2.f_out) (fun _ => ⟨_, _, _, _, rfl⟩) h (by kernel_rfl) (fun x1 o h => ?_) (fun r' h => ?_) (fun j1 h => ?_)
 ·unfold z2a at h
  rcases iteE h with ⟨k3, h⟩ | ⟨k3, h⟩
  ·obtain ⟨v3, k4, h⟩ := z08 h
   obtain ⟨v4, k5, h⟩ := z08 h
   obtain ⟨v5, k6, h⟩ := z08 h
   obtain ⟨v6, k7, h⟩ := z08 h
   obtain ⟨v7, k8, h⟩ := z08 h
   obtain ⟨v8, k9, h⟩ := z08 h
   obtain rfl := retE h
   exact fin (ok X) 20 [.b true, .e (zik v3), .s (z0m v4) (z0n v4), .s (z04 v5) (z05 v5), .s (z0m v6) (z0n v6), .s (z04 v7) (z05 v7), .s (z1j v8) (z1k v8)] (pA k3 (pA (ixr z6m k4) (pA (z0q (X := X) k5) (pA (z06 (X := X) k6) (pA (z0q (X := X) k7) (pA (z06 (X := X) k8) (pA (ih_ast_writer_block _ _ _ k9) pT))))))) (by kernel_rfl)
  ·obtain rfl := retE h
   exact fin (ok X) 5 [.b false] (pA k3 pT) (by kernel_rfl)
 ·cases h
 ·obtain ⟨v9, k10, h⟩ := z08 h
  obtain rfl := retE h
  exact fin (ok X) 1 [.s (z04 v9) (z05 v9)] (pA (z06 (X := X) k10) pT) (by kernel_rfl)

theorem z57 : ∀ n : Nat, (∀ (a0 : z00) (a1 : (List z07)) (r : z00), z0t n a0 a1 = some r → Cs Tryd.prog (GX X) 21 [xP 0 0, xL (List.map z0r a1)] [oB 70 [.row 1, .pv (.bool a0.f_form), .pv (.bool a0.f_deep), .pv (.int .i64 a0.f_blocks), .pv (.int .i64 a0.f_parens)], oR false 9 1 (List.map z0p a0.f_out)] (z1h r) (z1i r)) ∧ (∀ (a0 : z00) (a1 : z07) (r : z00), z0w n a0 a1 = some r → Cs Tryd.prog (GX X) 32 [xP 0 0, .agg (bs (z4n a1))] [oB 70 [.row 1, .pv (.bool a0.f_form), .pv (.bool a0.f_deep), .pv (.int .i64 a0.f_blocks), .pv (.int .i64 a0.f_parens)], oR false 9 1 (List.map z0p a0.f_out)] (z2g r) (z2h r)) ∧ (∀ (a0 : z00) (a1 : (List z07)) (r : z00), z0o n a0 a1 = some r → Cs Tryd.prog (GX X) 41 [xP 0 0, xL (List.map z0r a1)] [oB 70 [.row 1, .pv (.bool a0.f_form), .pv (.bool a0.f_deep), .pv (.int .i64 a0.f_blocks), .pv (.int .i64 a0.f_parens)], oR false 9 1 (List.map z0p a0.f_out)] (z1j r) (z1k r)) ∧ (∀ (a0 : z00) (a1 : (List z1c)) (r : z00), z0y n a0 a1 = some r → Cs Tryd.prog (GX X) 42 [xP 0 0, xL (List.map z1w a1)] [oB 70 [.row 1, .pv (.bool a0.f_form), .pv (.bool a0.f_deep), .pv (.int .i64 a0.f_blocks), .pv (.int .i64 a0.f_parens)], oR false 9 1 (List.map z0p a0.f_out)] (z24 r) (z25 r))
 | 0 => ⟨(fun _ _ _ h => by rw [z0t] at h; cases h), (fun _ _ _ h => by rw [z0w] at h; cases h), (fun _ _ _ h => by rw [z0o] at h; cases h), (fun _ _ _ h => by rw [z0y] at h; cases h)⟩
 | n + 1 => by
  have ih := z57 n
  exact ⟨z87 ih.1 ih.2.1 ih.2.2.1 ih.2.2.2, z91 ih.1 ih.2.1 ih.2.2.1 ih.2.2.2, z88 ih.1 ih.2.1 ih.2.2.1 ih.2.2.2, z92 ih.1 ih.2.1 ih.2.2.1 ih.2.2.2⟩

theorem z89 {a0 : z00} {a1 : (List z07)} {r : z00} (h : z4b a0 a1 = some r) : Cs Tryd.prog (GX X) 21 [xP 0 0, xL (List.map z0r a1)] [oB 70 [.row 1, .pv (.bool a0.f_form), .pv (.bool a0.f_deep), .pv (.int .i64 a0.f_blocks), .pv (.int .i64 a0.f_parens)], oR false 9 1 (List.map z0p a0.f_out)] (z1h r) (z1i r) := by
 obtain ⟨n, hn⟩ := unfE h
 exact (z57 n).1 _ _ _ hn

theorem z93 {a0 : z00} {a1 : z2r} {r : z00} (h : z3b a0 a1 = some r) : Cs Tryd.prog (GX X) 12 [xP 0 0, .agg (bs (z2y a1))] [oB 70 [.row 1, .pv (.bool a0.f_form), .pv (.bool a0.f_deep), .pv (.int .i64 a0.f_blocks), .pv (.int .i64 a0.f_parens)], oR false 9 1 (List.map z0p a0.f_out)] (z4t r) (z4u r) := by
 refine fnT (cx := cx X) Tryd.f12 Tryd.call12 Tryd.func12 (by kernel_rfl) ?_
 unfold z3b at h
 obtain ⟨v1, k1, h⟩ := z08 h
 obtain ⟨v2, k2, h⟩ := z08 h
 obtain ⟨v3, k3, h⟩ := z08 h
 refine adv (ok X) 11 [.s (z04 v1) (z05 v1), .s (z0m v2) (z0n v2), .s (z04 v3) (z05 v3), .i (a1.Vars.length : Int)] (pA (z06 (X := X) k1) (pA (z0q (X := X) k2) (pA (z06 (X := X) k3) (pA (lm z0p a1.Vars) pT)))) (by kernel_rfl) ?_
 refine lp (ok X) (z2p a1) (fun (x1 : (Int × Bool × Bool × Int × Int × (List ByteArray))) => ⟨40, 2, [(0, [xP 0 0]), (3, [xP 2 0]), (17, [xL (List.map z0p a1.Vars)]), (18, [xI (a1.Vars.length : Int)]), (19, [xI x1.1])], [oB 70 [.row 1, .pv (.bool x1.2.1), .pv (.bool x1.2.2.1), .pv (.int .i64 x1.2.2.2.1), .pv (.int .i64 x1.2.2.2.2.1)], oR true 9 1 (List.map z0p x1.2.2.2.2.2), oB 79 (bs (z2y a1))]⟩) (fun (j1 : (Bool × Bool × Int × Int × (List ByteArray))) => ⟨40, 2, [(0, [xP 0 0]), (3, [xP 2 0])], [oB 70 [.row 1, .pv (.bool j1.1), .pv (.bool j1.2.1), .pv (.int .i64 j1.2.2.1), .pv (.int .i64 j1.2.2.2.1)], oR true 9 1 (List.map z0p j1.2.2.2.2), oB 79 (bs (z2y a1))]⟩) z8w (0, v3.f_form, v3.f_deep, v3.f_blocks, v3.f_parens, v3.f_out) (fun _ => ⟨_, _, _, _, rfl⟩) h (by kernel_rfl) (fun x1 o h => ?_) (fun r' h => ?_) (fun j1 h => ?_)
 ·unfold z2p at h
  rcases iteE h with ⟨k4, h⟩ | ⟨k4, h⟩
  ·obtain ⟨v4, k5, h⟩ := z08 h
   obtain ⟨v5, k6, h⟩ := z08 h
   obtain ⟨v6, k7, h⟩ := z08 h
   obtain ⟨v7, k8, h⟩ := z08 h
   obtain rfl := retE h
   exact fin (ok X) 16 [.b true, .e [.str v4], .s (z04 v5) (z05 v5), .s (z0m v6) (z0n v6), .s (z04 v7) (z05 v7)] (pA k4 (pA (ixm z0p k5) (pA (z06 (X := X) k6) (pA (z0q (X := X) k7) (pA (z06 (X := X) k8) pT))))) (by kernel_rfl)
  ·obtain rfl := retE h
   exact fin (ok X) 5 [.b false] (pA k4 pT) (by kernel_rfl)
 ·cases h
 ·obtain ⟨v8, k9, h⟩ := z08 h
  obtain ⟨v9, k10, h⟩ := z08 h
  obtain rfl := retE h
  exact fin (ok X) 3 [.s (z1h v8) (z1i v8), .s (z04 v9) (z05 v9)] (pA (z89 (X := X) k9) (pA (z06 (X := X) k10) pT)) (by kernel_rfl)

theorem ze7 {a0 : z1d} {r : ((List ByteArray) × Int)} (h : z6p a0 = some r) : Cv Tryd.prog (GX X) 5 [.agg (bs (z3d a0))] (z7l r) := by
 refine Cs.toV (?_ : Cs Tryd.prog (GX X) 5 [.agg (bs (z3d a0))] [] (z7l r) (zaf r)) (by kernel_rfl)
 refine fnT (cx := cx X) Tryd.f5 Tryd.call5 Tryd.func5 (by kernel_rfl) ?_
 unfold z6p at h
 refine adv (ok X) 7 [.i (a0.Chans.length : Int)] (pA (lm z22 a0.Chans) pT) (by kernel_rfl) ?_
 refine lp (ok X) (z3l a0) (fun (x1 : (Int × Bool × Bool × Int × Int × (List ByteArray))) => ⟨67, 0, [(1, [xP 0 0]), (4, [xP 1 0]), (14, [xL (List.map z22 a0.Chans)]), (15, [xI (a0.Chans.length : Int)]), (16, [xI x1.1])], [oB 47 (bs (z3d a0)), oB 70 [.row 2, .pv (.bool x1.2.1), .pv (.bool x1.2.2.1), .pv (.int .i64 x1.2.2.2.1), .pv (.int .i64 x1.2.2.2.2.1)], oR true 9 1 (List.map z0p x1.2.2.2.2.2)]⟩) (fun (j1 : (Bool × Bool × Int × Int × (List ByteArray))) => ⟨67, 0, [(1, [xP 0 0]), (4, [xP 1 0])], [oB 47 (bs (z3d a0)), oB 70 [.row 2, .pv (.bool j1.1), .pv (.bool j1.2.1), .pv (.int .i64 j1.2.2.1), .pv (.int .i64 j1.2.2.2.1)], oR true 9 1 (List.map z0p j1.2.2.2.2)]⟩) z7m (0, false, false, 0, 0, []) (fun _ => ⟨_, _, _, _, rfl⟩) h (by kernel_rfl) (fun x1 o h => ?_) (fun r' h => ?_) (fun j1 h => ?_)
 ·unfold z3l at h
  rcases iteE h with ⟨k1, h⟩ | ⟨k1, h⟩
  ·obtain ⟨v1, k2, h⟩ := z08 h
   obtain ⟨v2, k3, h⟩ := z08 h
   obtain rfl := retE h
   exact fin (ok X) 12 [.b true, .e (z22 v1), .s (z40 v2) (z41 v2)] (pA k1 (pA (ixm z22 k2) (pA (z78 (X := X) k3) pT))) (by kernel_rfl)
  ·obtain rfl := retE h
   exact fin (ok X) 5 [.b false] (pA k1 pT) (by kernel_rfl)
 ·cases h
 ·refine adv (ok X) 3 [.i (a0.Rules.length : Int)] (pA (lm z2n a0.Rules) pT) (by kernel_rfl) ?_
  refine lp (ok X) (z3m a0) (fun (x2 : (Int × Bool × Bool × Int × Int × (List ByteArray))) => ⟨67, 0, [(1, [xP 0 0]), (4, [xP 1 0]), (25, [xL (List.map z2n a0.Rules)]), (26, [xI (a0.Rules.length : Int)]), (27, [xI x2.1])], [oB 47 (bs (z3d a0)), oB 70 [.row 2, .pv (.bool x2.2.1), .pv (.bool x2.2.2.1), .pv (.int .i64 x2.2.2.2.1), .pv (.int .i64 x2.2.2.2.2.1)], oR true 9 1 (List.map z0p x2.2.2.2.2.2)]⟩) (fun (j2 : (Bool × Bool × Int × Int × (List ByteArray))) => ⟨67, 0, [(1, [xP 0 0]), (4, [xP 1 0])], [oB 47 (bs (z3d a0)), oB 70 [.row 2, .pv (.bool j2.1), .pv (.bool j2.2.1), .pv (.int .i64 j2.2.2.1), .pv (.int .i64 j2.2.2.2.1)], oR true 9 1 (List.map z0p j2.2.2.2.2)]⟩) z7m (0, j1.1, j1.2.1, j1.2.2.1, j1.2.2.2.1, j1.2.2.2.2) (fun _ => ⟨_, _, _, _, rfl⟩) h (by kernel_rfl) (fun x2 o h => ?_) (fun r' h => ?_) (fun j2 h => ?_)
  ·unfold z3m at h
   rcases iteE h with ⟨k4, h⟩ | ⟨k4, h⟩
   ·obtain ⟨v3, k5, h⟩ := z08 h
    obtain ⟨v4, k6, h⟩ := z08 h
    obtain rfl := retE h
    exact fin (ok X) 12 [.b true, .e (z2n v3), .s (z4r v4) (z4s v4)] (pA k4 (pA (ixm z2n k5) (pA (z8y (X := X) k6) pT))) (by kernel_rfl)
   ·obtain rfl := retE h
    exact fin (ok X) 5 [.b false] (pA k4 pT) (by kernel_rfl)
  ·cases h
  ·refine adv (ok X) 3 [.i (a0.Procs.length : Int)] (pA (lm z2y a0.Procs) pT) (by kernel_rfl) ?_
   refine lp (ok X) (z3n a0) (fun (x3 : (Int × Bool × Bool × Int × Int × (List ByteArray))) => ⟨67, 0, [(4, [xP 1 0]), (36, [xL (List.map z2y a0.Procs)]), (37, [xI (a0.Procs.length : Int)]), (38, [xI x3.1])], [none, oB 70 [.row 2, .pv (.bool x3.2.1), .pv (.bool x3.2.2.1), .pv (.int .i64 x3.2.2.2.1), .pv (.int .i64 x3.2.2.2.2.1)], oR true 9 1 (List.map z0p x3.2.2.2.2.2)]⟩) (fun (j3 : (Bool × Bool × Int × Int × (List ByteArray))) => ⟨67, 0, [(4, [xP 1 0])], [none, oB 70 [.row 2, .pv (.bool j3.1), .pv (.bool j3.2.1), .pv (.int .i64 j3.2.2.1), .pv (.int .i64 j3.2.2.2.1)], oR true 9 1 (List.map z0p j3.2.2.2.2)]⟩) z7m (0, j2.1, j2.2.1, j2.2.2.1, j2.2.2.2.1, j2.2.2.2.2) (fun _ => ⟨_, _, _, _, rfl⟩) h (by kernel_rfl) (fun x3 o h => ?_) (fun r' h => ?_) (fun j3 h => ?_)
   ·unfold z3n at h
    rcases iteE h with ⟨k7, h⟩ | ⟨k7, h⟩
    ·obtain ⟨v5, k8, h⟩ := z08 h
     obtain ⟨v6, k9, h⟩ := z08 h
     obtain rfl := retE h
     exact fin (ok X) 12 [.b true, .e (z2y v5), .s (z4t v6) (z4u v6)] (pA k7 (pA (ixm z2y k8) (pA (z93 (X := X) k9) pT))) (by kernel_rfl)
    ·obtain rfl := retE h
     exact fin (ok X) 5 [.b false] (pA k7 pT) (by kernel_rfl)
   ·cases h
   ·rcases iteE h with ⟨k10, h⟩ | ⟨k10, h⟩
    ·obtain rfl := retE h
     exact fin (ok X) 8 [.b true] (pA k10 pT) (by kernel_rfl)
    ·refine adv (ok X) 7 [.b false] (pA k10 pT) (by kernel_rfl) ?_
     rcases iteE h with ⟨k11, h⟩ | ⟨k11, h⟩
     ·obtain rfl := retE h
      exact fin (ok X) 4 [.b true] (pA k11 pT) (by kernel_rfl)
     ·refine adv (ok X) 3 [.b false, .i (j3.2.2.2.2.length : Int)] (pA k11 (pA (lm z0p j3.2.2.2.2) pT)) (by kernel_rfl) ?_
      rcases iteE h with ⟨k12, h⟩ | ⟨k12, h⟩
      ·obtain rfl := retE h
       exact fin (ok X) 4 [.b true] (pA k12 pT) (by kernel_rfl)
      ·obtain rfl := retE h
       exact fin (ok X) 6 [.b false] (pA k12 pT) (by kernel_rfl)

theorem z2q {a0 : z1d} {r : ByteArray × Int} (h : z2j a0 = some r) : Cv Tryd.prog (GX X) 9 [.agg (bs (z3d a0))] (z2i r) := by
 unfold z2j at h
 obtain ⟨q, k, h⟩ := z08 h
 split at h
 ·rename_i hle
  obtain rfl := retE h
  exact zir hle (ze7 (X := X) k)
 ·cases h
end Go.Proofs.YtnfjgjomokloaaaDoor.Abs

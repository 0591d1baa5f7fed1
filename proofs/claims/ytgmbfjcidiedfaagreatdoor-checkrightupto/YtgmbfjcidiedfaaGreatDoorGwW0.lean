/- Gw: the functions are these. -/
import Derived.Test.YtgmbfjcidiedfaaGreatDoorGwF
namespace Go.Proofs.YtgmbfjcidiedfaaGreatDoor.Abs
open Go Go.RowKit
set_option linter.unusedVariables false
set_option maxRecDepth 100000
set_option maxHeartbeats 4000000
variable {X : EV}
theorem z060 {a0 : Int} {r : ByteArray} (h : itoa a0 = some r) : Cv Tryz.prog (GX X) 112 [xI a0] (z01l r) := zxq h
theorem z004 {a0 : ByteArray} {r : Int × Int} (h : znb a0 = some r) : Cv Tryz.prog (GX X) 62 [xS a0] (ztx r) := zs4 h
theorem zxr {a0 : ByteArray} {a1 : Int} {r : Int} (h : zs2 a0 a1 = some r) : Cv Tryz.prog (GX X) 79 [xS a0, .c (.pv (.int .u8 a1))] (zs1 r) := zvp h
theorem zhm {a0 : Int} {r : Bool} (h : zef a0 = some r) : Cv Tryz.prog (GX X) 58 [.c (.pv (.int .u8 a0))] (zdf r) := by
 refine Cs.toV (?_ : Cs Tryz.prog (GX X) 58 [.c (.pv (.int .u8 a0))] [] (zdf r) (zqi r)) (by kernel_rfl)
 refine fnT (cx := cx X) Tryz.f58 Tryz.call58 Tryz.func58 (by kernel_rfl) ?_
 unfold zef at h
 rcases iteE h with ⟨k1, h⟩ | ⟨k1, h⟩
 ·obtain rfl := retE h
  exact fin (ok X) 5 (bT 3 []) (pR 3 k1 pT) (by kernel_rfl)
 ·obtain rfl := retE h
  exact fin (ok X) 5 (bF 3 []) (pR 3 k1 pT) (by kernel_rfl)

theorem znl {a0 : Int} {r : Bool} (h : zg4 a0 = some r) : Cv Tryz.prog (GX X) 61 [.c (.pv (.int .u8 a0))] (zgi r) := by
 refine Cs.toV (?_ : Cs Tryz.prog (GX X) 61 [.c (.pv (.int .u8 a0))] [] (zgi r) (zrz r)) (by kernel_rfl)
 refine fnT (cx := cx X) Tryz.f61 Tryz.call61 Tryz.func61 (by kernel_rfl) ?_
 unfold zg4 at h
 rcases iteE h with ⟨k1, h⟩ | ⟨k1, h⟩
 ·obtain rfl := retE h
  exact fin (ok X) 5 (bT 3 []) (pR 3 k1 pT) (by kernel_rfl)
 ·obtain rfl := retE h
  exact fin (ok X) 5 (bF 3 []) (pR 3 k1 pT) (by kernel_rfl)

theorem zqs {a0 : ByteArray} {r : Int} (h : zlg a0 = some r) : Cv Tryz.prog (GX X) 60 [xS a0] (zhd r) := by
 refine Cs.toV (?_ : Cs Tryz.prog (GX X) 60 [xS a0] [] (zhd r) (zqj r)) (by kernel_rfl)
 refine fnT (cx := cx X) Tryz.f60 Tryz.call60 Tryz.func60 (by kernel_rfl) ?_
 unfold zlg at h
 refine adv (ok X) 5 [] pT (by kernel_rfl) ?_
 refine lp (ok X) (zcq a0) (fun (x1 : Int) => ⟨23, 0, [(0, [xS a0]), (3, [xI x1])], []⟩) (fun (j1 : Int) => ⟨23, 0, [(3, [xI j1])], []⟩) zxm 0 (fun _ => ⟨_, _, _, _, rfl⟩) h (by kernel_rfl) (fun x1 o h => ?_) (fun r' h => ?_) (fun j1 h => ?_)
 ·unfold zcq at h
  refine adv (ok X) 2 [] pT (by kernel_rfl) ?_
  refine jn (ok X) 1 (fun (j2 : Bool) => ⟨23, 0, [(0, [xS a0]), (3, [xI x1]), (19, [xB j2])], []⟩) h (fun j2 h => ?_) (fun j2 h => ?_)
  ·rcases iteE h with ⟨k1, h⟩ | ⟨k1, h⟩
   ·obtain ⟨v1, k2, h⟩ := z07 h
    obtain ⟨v2, k3, h⟩ := z07 h
    rcases iteE h with ⟨k4, h⟩ | ⟨k4, h⟩
    ·obtain rfl := retE h
     exact fin (ok X) 1 (bT 3 (.i v1 :: .b true :: .c (zdf v2) :: bT 8 [])) (pR 3 k1 (pA k2 (pA k1 (pA (zhm (X := X) k3) (pA k1 (pR 4 k4 (pA k1 (pA k4 (pA k1 pT))))))))) (by kernel_rfl)
    ·obtain ⟨v3, k5, h⟩ := z07 h
     obtain ⟨v4, k6, h⟩ := z07 h
     obtain rfl := retE h
     exact fin (ok X) 1 (bT 3 (.i v1 :: .b true :: .c (zdf v2) :: .b true :: bF 3 [.i v3, .b false, .c (zgi v4), .b true, .b false, .b true])) (pR 3 k1 (pA k2 (pA k1 (pA (zhm (X := X) k3) (pA k1 (pR 3 k4 (pA k5 (pA k4 (pA (znl (X := X) k6) (pA k1 (pA k4 (pA k1 pT)))))))))))) (by kernel_rfl)
   ·obtain rfl := retE h
    exact fin (ok X) 1 (bF 7 []) (pR 7 k1 pT) (by kernel_rfl)
  ·rcases iteE h with ⟨k7, h⟩ | ⟨k7, h⟩
   ·obtain rfl := retE h
    exact fin (ok X) 5 [.b true] (pA k7 pT) (by kernel_rfl)
   ·obtain rfl := retE h
    exact fin (ok X) 2 [.b false] (pA k7 pT) (by kernel_rfl)
 ·cases h
 ·obtain rfl := retE h
  exact fin (ok X) 3 [] pT (by kernel_rfl)

theorem zo3 {a0 : ByteArray} {r : Bool} (h : zdg a0 = some r) : Cv Tryz.prog (GX X) 76 [xS a0] (zfx r) := by
 refine Cs.toV (?_ : Cs Tryz.prog (GX X) 76 [xS a0] [] (zfx r) (znw r)) (by kernel_rfl)
 refine fnT (cx := cx X) Tryz.f76 Tryz.call76 Tryz.func76 (by kernel_rfl) ?_
 unfold zdg at h
 rcases iteE h with ⟨k1, h⟩ | ⟨k1, h⟩
 ·obtain rfl := retE h
  exact fin (ok X) 15 [.b true, .b true] (pA k1 (pA k1 pT)) (by kernel_rfl)
 ·refine adv (ok X) 12 [.b false] (pA k1 pT) (by kernel_rfl) ?_
  rcases iteE h with ⟨k2, h⟩ | ⟨k2, h⟩
  ·obtain rfl := retE h
   exact fin (ok X) 6 [.b true, .b true] (pA k2 (pA k2 pT)) (by kernel_rfl)
  ·refine adv (ok X) 3 [.b false] (pA k2 pT) (by kernel_rfl) ?_
   rcases iteE h with ⟨k3, h⟩ | ⟨k3, h⟩
   ·obtain rfl := retE h
    exact fin (ok X) 6 [.b true, .b true] (pA k3 (pA k3 pT)) (by kernel_rfl)
   ·refine adv (ok X) 3 [.b false] (pA k3 pT) (by kernel_rfl) ?_
    rcases iteE h with ⟨k4, h⟩ | ⟨k4, h⟩
    ·obtain rfl := retE h
     exact fin (ok X) 6 [.b true, .b true] (pA k4 (pA k4 pT)) (by kernel_rfl)
    ·refine adv (ok X) 3 [.b false] (pA k4 pT) (by kernel_rfl) ?_
     rcases iteE h with ⟨k5, h⟩ | ⟨k5, h⟩
     ·obtain rfl := retE h
      exact fin (ok X) 6 [.b true, .b true] (pA k5 (pA k5 pT)) (by kernel_rfl)
     ·refine adv (ok X) 3 [.b false] (pA k5 pT) (by kernel_rfl) ?_
      rcases iteE h with ⟨k6, h⟩ | ⟨k6, h⟩
      ·obtain rfl := retE h
       exact fin (ok X) 6 [.b true, .b true] (pA k6 (pA k6 pT)) (by kernel_rfl)
      ·refine adv (ok X) 3 [.b false] (pA k6 pT) (by kernel_rfl) ?_
       rcases iteE h with ⟨k7, h⟩ | ⟨k7, h⟩
       ·obtain rfl := retE h
        exact fin (ok X) 6 [.b true, .b true] (pA k7 (pA k7 pT)) (by kernel_rfl)
       ·refine adv (ok X) 2 [.b false] (pA k7 pT) (by kernel_rfl) ?_
        rcases iteE h with ⟨k8, h⟩ | ⟨k8, h⟩
        ·obtain rfl := retE h
         exact fin (ok X) 4 [.b true] (pA k8 pT) (by kernel_rfl)
        ·refine adv (ok X) 4 [.b false] (pA k8 pT) (by kernel_rfl) ?_
         rcases iteE h with ⟨k9, h⟩ | ⟨k9, h⟩
         ·obtain rfl := retE h
          exact fin (ok X) 6 [.b true, .b true] (pA k9 (pA k9 pT)) (by kernel_rfl)
         ·refine adv (ok X) 3 [.b false] (pA k9 pT) (by kernel_rfl) ?_
          rcases iteE h with ⟨k10, h⟩ | ⟨k10, h⟩
          ·obtain rfl := retE h
           exact fin (ok X) 6 [.b true, .b true] (pA k10 (pA k10 pT)) (by kernel_rfl)
          ·refine adv (ok X) 3 [.b false] (pA k10 pT) (by kernel_rfl) ?_
           rcases iteE h with ⟨k11, h⟩ | ⟨k11, h⟩
           ·obtain rfl := retE h
            exact fin (ok X) 6 [.b true, .b true] (pA k11 (pA k11 pT)) (by kernel_rfl)
           ·refine adv (ok X) 3 [.b false] (pA k11 pT) (by kernel_rfl) ?_
            rcases iteE h with ⟨k12, h⟩ | ⟨k12, h⟩
            ·obtain rfl := retE h
             exact fin (ok X) 6 [.b true, .b true] (pA k12 (pA k12 pT)) (by kernel_rfl)
            ·refine adv (ok X) 3 [.b false] (pA k12 pT) (by kernel_rfl) ?_
             rcases iteE h with ⟨k13, h⟩ | ⟨k13, h⟩
             ·obtain rfl := retE h
              exact fin (ok X) 6 [.b true, .b true] (pA k13 (pA k13 pT)) (by kernel_rfl)
             ·refine adv (ok X) 3 [.b false] (pA k13 pT) (by kernel_rfl) ?_
              rcases iteE h with ⟨k14, h⟩ | ⟨k14, h⟩
              ·obtain rfl := retE h
               exact fin (ok X) 6 [.b true, .b true] (pA k14 (pA k14 pT)) (by kernel_rfl)
              ·refine adv (ok X) 3 [.b false] (pA k14 pT) (by kernel_rfl) ?_
               rcases iteE h with ⟨k15, h⟩ | ⟨k15, h⟩
               ·obtain rfl := retE h
                exact fin (ok X) 6 [.b true, .b true] (pA k15 (pA k15 pT)) (by kernel_rfl)
               ·refine adv (ok X) 2 [.b false] (pA k15 pT) (by kernel_rfl) ?_
                rcases iteE h with ⟨k16, h⟩ | ⟨k16, h⟩
                ·obtain rfl := retE h
                 exact fin (ok X) 4 [.b true] (pA k16 pT) (by kernel_rfl)
                ·obtain rfl := retE h
                 exact fin (ok X) 6 [.b false] (pA k16 pT) (by kernel_rfl)

theorem zs5 {a0 : ByteArray} {r : (z0n × Int)} (h : zg5 a0 = some r) : Cv Tryz.prog (GX X) 59 [xS a0] (zj7 r) := by
 refine Cs.toV (?_ : Cs Tryz.prog (GX X) 59 [xS a0] [] (zj7 r) (zs0 r)) (by kernel_rfl)
 refine fnT (cx := cx X) Tryz.f59 Tryz.call59 Tryz.func59 (by kernel_rfl) ?_
 unfold zg5 at h
 rcases iteE h with ⟨k1, h⟩ | ⟨k1, h⟩
 ·obtain rfl := retE h
  exact fin (ok X) 10 [.b true] (pA k1 pT) (by kernel_rfl)
 ·obtain ⟨v1, k2, h⟩ := z07 h
  refine adv (ok X) 9 [.b false, .c (zfx v1)] (pA k1 (pA (zo3 (X := X) k2) pT)) (by kernel_rfl) ?_
  rcases iteE h with ⟨k3, h⟩ | ⟨k3, h⟩
  ·obtain rfl := retE h
   exact fin (ok X) 4 [.b true] (pA k3 pT) (by kernel_rfl)
  ·obtain rfl := retE h
   exact fin (ok X) 6 [.b false] (pA k3 pT) (by kernel_rfl)

theorem zvq {a0 : ByteArray} {r : Int} (h : zk9 a0 = some r) : Cv Tryz.prog (GX X) 63 [xS a0] (zlh r) := by
 refine Cs.toV (?_ : Cs Tryz.prog (GX X) 63 [xS a0] [] (zlh r) (zvg r)) (by kernel_rfl)
 refine fnT (cx := cx X) Tryz.f63 Tryz.call63 Tryz.func63 (by kernel_rfl) ?_
 unfold zk9 at h
 refine adv (ok X) 4 [] pT (by kernel_rfl) ?_
 refine jn (ok X) 1 (fun (j1 : Bool) => ⟨21, 0, [(0, [xS a0]), (16, [xB j1])], []⟩) h (fun j1 h => ?_) (fun j1 h => ?_)
 ·rcases iteE h with ⟨k1, h⟩ | ⟨k1, h⟩
  ·obtain ⟨v1, k2, h⟩ := z07 h
   rcases iteE h with ⟨k3, h⟩ | ⟨k3, h⟩
   ·obtain ⟨v2, k4, h⟩ := z07 h
    obtain ⟨v3, k5, h⟩ := z07 h
    obtain rfl := retE h
    exact fin (ok X) 1 (.b true :: .b true :: .i v1 :: bT 4 [.i v2, .b true, .c (zs1 v3), .b true, .b true]) (pA k1 (pA k1 (pA k2 (pA k1 (pA k1 (pA k3 (pA k3 (pA k4 (pA k3 (pA (zxr (X := X) k5) (pA k3 (pA k3 pT)))))))))))) (by kernel_rfl)
   ·obtain rfl := retE h
    exact fin (ok X) 1 (.b true :: .b true :: .i v1 :: .b true :: .b true :: bF 5 []) (pA k1 (pA k1 (pA k2 (pA k1 (pA k1 (pR 5 k3 pT)))))) (by kernel_rfl)
  ·obtain rfl := retE h
   exact fin (ok X) 1 (bF 9 []) (pR 4 k1 (pR 5 ff pT)) (by kernel_rfl)
 ·rcases iteE h with ⟨k6, h⟩ | ⟨k6, h⟩
  ·obtain rfl := retE h
   exact fin (ok X) 4 [.b true] (pA k6 pT) (by kernel_rfl)
  ·obtain ⟨v4, k7, h⟩ := z07 h
   obtain ⟨v5, k8, h⟩ := z07 h
   refine adv (ok X) 5 [.b false, .i v4, .c (zs1 v5)] (pA k6 (pA k7 (pA (zxr (X := X) k8) pT))) (by kernel_rfl) ?_
   rcases iteE h with ⟨k9, h⟩ | ⟨k9, h⟩
   ·obtain rfl := retE h
    exact fin (ok X) 4 [.b true] (pA k9 pT) (by kernel_rfl)
   ·obtain rfl := retE h
    exact fin (ok X) 5 [.b false] (pA k9 pT) (by kernel_rfl)

theorem zvr {a0 : ByteArray} {r : (z0n × Int)} (h : zgj a0 = some r) : Cv Tryz.prog (GX X) 30 [xS a0] (zli r) := by
 refine Cs.toV (?_ : Cs Tryz.prog (GX X) 30 [xS a0] [] (zli r) (zvh r)) (by kernel_rfl)
 refine fnT (cx := cx X) Tryz.f30 Tryz.call30 Tryz.func30 (by kernel_rfl) ?_
 unfold zgj at h
 obtain ⟨v1, k1, h⟩ := z07 h
 obtain ⟨v2, k2, h⟩ := z07 h
 refine adv (ok X) 6 [.i v1, .c (zdf v2)] (pA k1 (pA (zhm (X := X) k2) pT)) (by kernel_rfl) ?_
 rcases iteE h with ⟨k3, h⟩ | ⟨k3, h⟩
 ·obtain ⟨v3, k4, h⟩ := z07 h
  obtain ⟨v4, k5, h⟩ := z07 h
  obtain ⟨v5, k6, h⟩ := z07 h
  obtain rfl := retE h
  exact fin (ok X) 4 [.b true, .c (zhd v3), .x [xS v4], .c (zj7 v5)] (pA k3 (pA (zqs (X := X) k4) (pA k5 (pA (zs5 (X := X) k6) pT)))) (by kernel_rfl)
 ·obtain ⟨v6, k7, h⟩ := z07 h
  obtain ⟨v7, k8, h⟩ := z07 h
  refine adv (ok X) 3 [.b false, .i v6, .c (zgi v7)] (pA k3 (pA k7 (pA (znl (X := X) k8) pT))) (by kernel_rfl) ?_
  rcases iteE h with ⟨k9, h⟩ | ⟨k9, h⟩
  ·obtain ⟨v8, k10, h⟩ := z07 h
   obtain ⟨v9, k11, h⟩ := z07 h
   obtain ⟨v10, k12, h⟩ := z07 h
   obtain rfl := retE h
   exact fin (ok X) 8 [.b true, .c (zhd v8), .x [xS v9], .c (ztx v10)] (pA k9 (pA (zqs (X := X) k10) (pA k11 (pA (z004 (X := X) k12) pT)))) (by kernel_rfl)
  ·obtain ⟨v11, k13, h⟩ := z07 h
   refine adv (ok X) 8 [.b false, .c (zlh v11)] (pA k9 (pA (zvq (X := X) k13) pT)) (by kernel_rfl) ?_
   rcases iteE h with ⟨k14, h⟩ | ⟨k14, h⟩
   ·obtain rfl := retE h
    exact fin (ok X) 4 [.b true] (pA k14 pT) (by kernel_rfl)
   ·obtain ⟨v12, k15, h⟩ := z07 h
    obtain rfl := retE h
    exact fin (ok X) 5 [.b false, .x [xS v12]] (pA k14 (pA k15 pT)) (by kernel_rfl)

theorem zqt {a0 : ByteArray} {r : ((List z0n) × Int × Int)} (h : zhe a0 = some r) : Cv Tryz.prog (GX X) 15 [xS a0] (zhf r) := by
 refine Cs.toV (?_ : Cs Tryz.prog (GX X) 15 [xS a0] [] (zhf r) (zqk r)) (by kernel_rfl)
 refine fnT (cx := cx X) Tryz.f15 Tryz.call15 Tryz.func15 (by kernel_rfl) ?_
 unfold zhe at h
 refine adv (ok X) 7 [] pT (by kernel_rfl) ?_
 refine lp (ok X) (zcr a0) (fun (x1 : (Int × (List z0n))) => ⟨53, 0, [(0, [xS a0]), (5, [xR 0]), (6, [xI x1.1])], [oR true 113 4 (List.map z1o x1.2)]⟩) (fun (j1 : (List z0n)) => ⟨53, 0, [(0, [xS a0]), (5, [xR 0])], [oR true 113 4 (List.map z1o j1)]⟩) zxn (0, []) (fun _ => ⟨_, _, _, _, rfl⟩) h (by kernel_rfl) (fun x1 o h => ?_) (fun r' h => ?_) (fun j1 h => ?_)
 ·unfold zcr at h
  rcases iteE h with ⟨k1, h⟩ | ⟨k1, h⟩
  ·refine adv (ok X) 8 [.b true] (pA k1 pT) (by kernel_rfl) ?_
   refine jn (ok X) 1 (fun (j2 : Bool) => ⟨53, 0, [(0, [xS a0]), (5, [xR 0]), (6, [xI x1.1]), (22, [xB j2])], [oR true 113 4 (List.map z1o x1.2)]⟩) h (fun j2 h => ?_) (fun j2 h => ?_)
   ·obtain ⟨v1, k2, h⟩ := z07 h
    rcases iteE h with ⟨k3, h⟩ | ⟨k3, h⟩
    ·obtain rfl := retE h
     exact fin (ok X) 1 (.i v1 :: bT 5 []) (pA k2 (pR 5 k3 pT)) (by kernel_rfl)
    ·obtain ⟨v2, k4, h⟩ := z07 h
     obtain rfl := retE h
     exact fin (ok X) 1 (.i v1 :: bF 3 [.i v2, .b false, .b false]) (pA k2 (pR 3 k3 (pA k4 (pA k3 (pA k3 pT))))) (by kernel_rfl)
   ·rcases iteE h with ⟨k5, h⟩ | ⟨k5, h⟩
    ·obtain rfl := retE h
     exact fin (ok X) 4 [.b true] (pA k5 pT) (by kernel_rfl)
    ·obtain ⟨v3, k6, h⟩ := z07 h
     obtain ⟨v4, k7, h⟩ := z07 h
     refine adv (ok X) 7 [.b false, .x [xS v3], .c (zli v4)] (pA k5 (pA k6 (pA (zvr (X := X) k7) pT))) (by kernel_rfl) ?_
     rcases iteE h with ⟨k8, h⟩ | ⟨k8, h⟩
     ·obtain rfl := retE h
      exact fin (ok X) 4 [.b true] (pA k8 pT) (by kernel_rfl)
     ·obtain ⟨v5, k9, h⟩ := z07 h
      obtain rfl := retE h
      exact fin (ok X) 8 [.b false, .l (List.map z1o v5)] (pA k8 (pA (apm (L := x1.2) (M := [(z0n.mk v4.1.Kind v4.1.Text v4.1.Num x1.1)]) zf1 k9) pT)) (by kernel_rfl)
  ·obtain rfl := retE h
   exact fin (ok X) 5 [.b false] (pA k1 pT) (by kernel_rfl)
 ·obtain rfl := retE h
  kernel_rfl
 ·refine adv (ok X) 3 [.i (j1.length : Int)] (pA (lm z1o j1) pT) (by kernel_rfl) ?_
  rcases iteE h with ⟨k10, h⟩ | ⟨k10, h⟩
  ·obtain rfl := retE h
   exact fin (ok X) 4 [.b true] (pA k10 pT) (by kernel_rfl)
  ·obtain rfl := retE h
   exact fin (ok X) 5 [.b false] (pA k10 pT) (by kernel_rfl)

theorem z6b {a0 : z00} {a1 : ByteArray} {r : Bool} (h : z3n a0 a1 = some r) : Cs Tryz.prog (GX X) 31 [xP 0 0, xS a1] [oB 67 (bs (z03 a0))] (z5l r) (z5m a0 r) := by
 refine fnT (cx := cx X) Tryz.f31 Tryz.call31 Tryz.func31 (by kernel_rfl) ?_
 unfold z3n at h
 rcases iteE h with ⟨k1, h⟩ | ⟨k1, h⟩
 ·rcases iteE h with ⟨k2, h⟩ | ⟨k2, h⟩
  ·obtain ⟨v1, k3, h⟩ := z07 h
   rcases iteE h with ⟨k4, h⟩ | ⟨k4, h⟩
   ·obtain ⟨v2, k5, h⟩ := z07 h
    obtain rfl := retE h
    exact fin (ok X) 5 (bT 5 (.i (a0.f_l.length : Int) :: bT 7 (.e (z1o v1) :: bT 9 (.e (z1o v2) :: bT 5 [])))) (pR 5 k1 (pA (lm z1o a0.f_l) (pA k1 (pA k1 (pR 5 k2 (pA (ixm z1o k3) (pR 4 k2 (pR 5 k4 (pA (ixm z1o k5) (pR 5 k4 pT)))))))))) (by kernel_rfl)
   ·obtain rfl := retE h
    exact fin (ok X) 5 (bT 5 (.i (a0.f_l.length : Int) :: bT 7 (.e (z1o v1) :: bT 4 (bF 10 [])))) (pR 5 k1 (pA (lm z1o a0.f_l) (pA k1 (pA k1 (pR 5 k2 (pA (ixm z1o k3) (pR 4 k2 (pR 10 k4 pT)))))))) (by kernel_rfl)
  ·obtain rfl := retE h
   exact fin (ok X) 5 (bT 5 (.i (a0.f_l.length : Int) :: .b true :: .b true :: bF 19 [])) (pR 5 k1 (pA (lm z1o a0.f_l) (pA k1 (pA k1 (pR 9 k2 (pR 10 ff pT)))))) (by kernel_rfl)
 ·obtain rfl := retE h
  exact fin (ok X) 5 (bF 26 []) (pR 7 k1 (pR 19 ff pT)) (by kernel_rfl)

theorem z3b {a0 : z00} {a1 : ByteArray} {r : (z00 × Bool)} (h : z0q a0 a1 = some r) : Cs Tryz.prog (GX X) 16 [xP 0 0, xS a1] [oB 67 (bs (z03 a0))] (z2v r) (z2w r) := by
 refine fnT (cx := cx X) Tryz.f16 Tryz.call16 Tryz.func16 (by kernel_rfl) ?_
 unfold z0q at h
 obtain ⟨v1, k1, h⟩ := z07 h
 refine adv (ok X) 5 [.s (z5l v1) (z5m a0 v1)] (pA (z6b (X := X) k1) pT) (by kernel_rfl) ?_
 rcases iteE h with ⟨k2, h⟩ | ⟨k2, h⟩
 ·obtain rfl := retE h
  exact fin (ok X) 4 [.b true] (pA k2 pT) (by kernel_rfl)
 ·obtain ⟨v2, k3, h⟩ := z07 h
  obtain rfl := retE h
  exact fin (ok X) 7 [.b false, .l (List.map z1o v2)] (pA k2 (pA (lsm0 z1o k3) (pA (lnm zf1 a0.f_l) pT))) (by kernel_rfl)

theorem zd4 {a0 : z00} {a1 : Int} {r : Bool} (h : z6o a0 a1 = some r) : Cs Tryz.prog (GX X) 80 [xP 0 0, xI a1] [oB 67 (bs (z03 a0))] (zak r) (zal a0 r) := by
 refine fnT (cx := cx X) Tryz.f80 Tryz.call80 Tryz.func80 (by kernel_rfl) ?_
 unfold z6o at h
 rcases iteE h with ⟨k1, h⟩ | ⟨k1, h⟩
 ·rcases iteE h with ⟨k2, h⟩ | ⟨k2, h⟩
  ·obtain ⟨v1, k3, h⟩ := z07 h
   obtain rfl := retE h
   exact fin (ok X) 5 (bT 5 (.i (a0.f_l.length : Int) :: bT 7 (.e (z1o v1) :: bT 5 []))) (pR 5 k1 (pA (lm z1o a0.f_l) (pA k1 (pA k1 (pR 5 k2 (pA (ixm z1o k3) (pR 5 k2 pT))))))) (by kernel_rfl)
  ·obtain rfl := retE h
   exact fin (ok X) 5 (bT 5 (.i (a0.f_l.length : Int) :: .b true :: .b true :: bF 10 [])) (pR 5 k1 (pA (lm z1o a0.f_l) (pA k1 (pA k1 (pR 10 k2 pT))))) (by kernel_rfl)
 ·obtain rfl := retE h
  exact fin (ok X) 5 (bF 17 []) (pR 7 k1 (pR 10 ff pT)) (by kernel_rfl)

theorem z6c {a0 : z00} {a1 : Int} {r : z00} (h : z2t a0 a1 = some r) : Cs Tryz.prog (GX X) 20 [xP 0 0, xI a1] [oB 67 (bs (z03 a0))] (z5n r) (z5o r) := by
 refine fnT (cx := cx X) Tryz.f20 Tryz.call20 Tryz.func20 (by kernel_rfl) ?_
 unfold z2t at h
 rcases iteE h with ⟨k1, h⟩ | ⟨k1, h⟩
 ·obtain rfl := retE h
  exact fin (ok X) 5 [.b true] (pA k1 pT) (by kernel_rfl)
 ·refine adv (ok X) 9 [.b false, .i (a0.f_l.length : Int)] (pA k1 (pA (lm z1o a0.f_l) pT)) (by kernel_rfl) ?_
  rcases iteE h with ⟨k2, h⟩ | ⟨k2, h⟩
  ·obtain ⟨v1, k3, h⟩ := z07 h
   obtain rfl := retE h
   exact fin (ok X) 2 [.b true, .e (z1o v1)] (pA k2 (pA (ixm z1o k3) pT)) (by kernel_rfl)
  ·obtain rfl := retE h
   exact fin (ok X) 2 [.b false] (pA k2 pT) (by kernel_rfl)

theorem zf3 {a0 : z00} {a1 : Int} {r : (z00 × z0n)} (h : z6f a0 a1 = some r) : Cs Tryz.prog (GX X) 64 [xP 0 0, xI a1] [oB 67 (bs (z03 a0))] (zbd r) (zbe r) := by
 refine fnT (cx := cx X) Tryz.f64 Tryz.call64 Tryz.func64 (by kernel_rfl) ?_
 unfold z6f at h
 obtain ⟨v1, k1, h⟩ := z07 h
 refine adv (ok X) 5 [.s (zak v1) (zal a0 v1)] (pA (zd4 (X := X) k1) pT) (by kernel_rfl) ?_
 rcases iteE h with ⟨k2, h⟩ | ⟨k2, h⟩
 ·obtain ⟨v2, k3, h⟩ := z07 h
  obtain rfl := retE h
  exact fin (ok X) 6 [.b true, .s (z5n v2) (z5o v2)] (pA k2 (pA (z6c (X := X) k3) pT)) (by kernel_rfl)
 ·obtain ⟨v3, k4, h⟩ := z07 h
  obtain ⟨v4, k5, h⟩ := z07 h
  obtain rfl := retE h
  exact fin (ok X) 9 [.b false, .e (z1o v3), .l (List.map z1o v4)] (pA k2 (pA (ixm z1o k4) (pA (lsm0 z1o k5) (pA (lnm zf1 a0.f_l) pT)))) (by kernel_rfl)

theorem z2e {a0 : z00} {r : (z00 × ByteArray)} (h : z0o a0 = some r) : Cs Tryz.prog (GX X) 32 [xP 0 0] [oB 67 (bs (z03 a0))] (z27 r) (z28 r) := by
 refine fnT (cx := cx X) Tryz.f32 Tryz.call32 Tryz.func32 (by kernel_rfl) ?_
 unfold z0o at h
 obtain ⟨v1, k1, h⟩ := z07 h
 obtain rfl := retE h
 exact fin (ok X) 5 [.s (zbd v1) (zbe v1)] (pA (zf3 (X := X) k1) pT) (by kernel_rfl)

theorem z89 {a0 : (List ByteArray)} {a1010 : z00} {r : (z00 × Int)} (h : z2j a0 a1010 = some r) : Cs Tryz.prog (GX X) 65 [xL (List.map z0a a0), .fn (.func 16) [.box 0 0] []] [oB 67 (bs (z03 a1010))] (z4d r) (z4e r) := by
 refine fnT (cx := cx X) Tryz.f65 Tryz.call65 Tryz.func65 (by kernel_rfl) ?_
 unfold z2j at h
 refine adv (ok X) 5 [.i (a0.length : Int)] (pA (lm z0a a0) pT) (by kernel_rfl) ?_
 refine lp (ok X) (z0u a0) (fun (x1 : (Int × (List z0n) × Int × Int × Int × Int × Int)) => ⟨19, 1, [(0, [xL (List.map z0a a0)]), (1, [.fn (.func 16) [.box 0 0] []]), (7, [xI (a0.length : Int)]), (8, [xI x1.1])], [oB 67 (bs (z03 (z00.mk x1.2.1 x1.2.2.1 x1.2.2.2.1 x1.2.2.2.2.1 x1.2.2.2.2.2.1 x1.2.2.2.2.2.2)))]⟩) (fun (j1 : ((List z0n) × Int × Int × Int × Int × Int)) => ⟨19, 1, [], [oB 67 (bs (z03 (z00.mk j1.1 j1.2.1 j1.2.2.1 j1.2.2.2.1 j1.2.2.2.2.1 j1.2.2.2.2.2)))]⟩) z83 (0, a1010.f_l, a1010.f_end, a1010.f_e, a1010.f_at, a1010.f_deep, a1010.f_in) (fun _ => ⟨_, _, _, _, rfl⟩) h (by kernel_rfl) (fun x1 o h => ?_) (fun r' h => ?_) (fun j1 h => ?_)
 ·unfold z0u at h
  rcases iteE h with ⟨k1, h⟩ | ⟨k1, h⟩
  ·obtain ⟨v1, k2, h⟩ := z07 h
   obtain ⟨v2, k3, h⟩ := z07 h
   refine adv (ok X) 11 [.b true, .e [.str v1], .s (z2v v2) (z2w v2)] (pA k1 (pA (ixm z0a k2) (pA (z3b (X := X) k3) pT))) (by kernel_rfl) ?_
   rcases iteE h with ⟨k4, h⟩ | ⟨k4, h⟩
   ·obtain rfl := retE h
    exact fin (ok X) 4 [.b true] (pA k4 pT) (by kernel_rfl)
   ·obtain rfl := retE h
    exact fin (ok X) 4 [.b false] (pA k4 pT) (by kernel_rfl)
  ·obtain rfl := retE h
   exact fin (ok X) 5 [.b false] (pA k1 pT) (by kernel_rfl)
 ·obtain rfl := retE h
  kernel_rfl
 ·obtain rfl := retE h
  exact fin (ok X) 3 [] pT (by kernel_rfl)

theorem z8z {a0 : z00} {a1 : (List ByteArray)} {r : (z00 × Int)} (h : z23 a0 a1 = some r) : Cs Tryz.prog (GX X) 33 [xP 0 0, xL (List.map z0a a1)] [oB 67 (bs (z03 a0))] (z7s r) (z7t r) := by
 refine fnT (cx := cx X) Tryz.f33 Tryz.call33 Tryz.func33 (by kernel_rfl) ?_
 unfold z23 at h
 obtain ⟨v1, k1, h⟩ := z07 h
 obtain rfl := retE h
 exact fin (ok X) 5 [.s (z4d v1) (z4e v1)] (pA (z89 (X := X) k1) pT) (by kernel_rfl)

theorem z8p {a0 : z00} {r : (z00 × Int)} (h : z2c a0 = some r) : Cs Tryz.prog (GX X) 34 [xP 0 0] [oB 67 (bs (z03 a0))] (z7e r) (z7f r) := by
 refine fnT (cx := cx X) Tryz.f34 Tryz.call34 Tryz.func34 (by kernel_rfl) ?_
 unfold z2c at h
 obtain ⟨v1, k1, h⟩ := z07 h
 obtain rfl := retE h
 exact fin (ok X) 5 [.s (zbd v1) (zbe v1)] (pA (zf3 (X := X) k1) pT) (by kernel_rfl)

theorem z11 {a0 : z00} {a1 : ByteArray} {r : z00} (h : z08 a0 a1 = some r) : Cs Tryz.prog (GX X) 35 [xP 0 0, xS a1] [oB 67 (bs (z03 a0))] (z0x r) (z0y r) := by
 refine fnT (cx := cx X) Tryz.f35 Tryz.call35 Tryz.func35 (by kernel_rfl) ?_
 unfold z08 at h
 obtain ⟨v1, k1, h⟩ := z07 h
 refine adv (ok X) 2 [.s (z2v v1) (z2w v1)] (pA (z3b (X := X) k1) pT) (by kernel_rfl) ?_
 rcases iteE h with ⟨k2, h⟩ | ⟨k2, h⟩
 ·obtain ⟨v2, k3, h⟩ := z07 h
  obtain rfl := retE h
  exact fin (ok X) 2 [.b true, .s (z5n v2) (z5o v2)] (pA k2 (pA (z6c (X := X) k3) pT)) (by kernel_rfl)
 ·obtain rfl := retE h
  exact fin (ok X) 2 [.b false] (pA k2 pT) (by kernel_rfl)

theorem zh3 {a0 : z00} {r : (z00 × z4o)} (h : z6v a0 = some r) : Cs Tryz.prog (GX X) 17 [xP 0 0] [oB 67 (bs (z03 a0))] (z9t r) (z9u r) := by
 refine fnT (cx := cx X) Tryz.f17 Tryz.call17 Tryz.func17 (by kernel_rfl) ?_
 unfold z6v at h
 obtain ⟨v1, k1, h⟩ := z07 h
 obtain ⟨v2, k2, h⟩ := z07 h
 refine adv (ok X) 9 [.s (z27 v1) (z28 v1), .s (z7s v2) (z7t v2)] (pA (z2e (X := X) k1) (pA (z8z (X := X) k2) pT)) (by kernel_rfl) ?_
 rcases iteE h with ⟨k3, h⟩ | ⟨k3, h⟩
 ·obtain ⟨v3, k4, h⟩ := z07 h
  obtain rfl := retE h
  exact fin (ok X) 6 [.b true, .s (z5n v3) (z5o v3)] (pA k3 (pA (z6c (X := X) k4) pT)) (by kernel_rfl)
 ·obtain ⟨v4, k5, h⟩ := z07 h
  obtain ⟨v5, k6, h⟩ := z07 h
  obtain ⟨v6, k7, h⟩ := z07 h
  obtain ⟨v7, k8, h⟩ := z07 h
  obtain ⟨v8, k9, h⟩ := z07 h
  obtain ⟨v9, k10, h⟩ := z07 h
  obtain ⟨v10, k11, h⟩ := z07 h
  obtain ⟨v11, k12, h⟩ := z07 h
  refine adv (ok X) 17 [.b false, .s (z7e v4) (z7f v4), .s (z0x v5) (z0y v5), .s (z27 v6) (z28 v6), .s (z0x v7) (z0y v7), .s (z27 v8) (z28 v8), .s (z0x v9) (z0y v9), .o [0, 1, 2, 3, 4, 5, 6, 7], .s (z27 v10) (z28 v10), .l (List.map z0a v11)] (pA k3 (pA (z8p (X := X) k5) (pA (z11 (X := X) k6) (pA (z2e (X := X) k7) (pA (z11 (X := X) k8) (pA (z2e (X := X) k9) (pA (z11 (X := X) k10) (pA (z2e (X := X) k11) (pA (apm (L := []) (M := [v10.2]) zf2 k12) pT))))))))) (by kernel_rfl) ?_
  refine lp (ok X) (z2g) (fun (x1 : ((List z0n) × Int × Int × Int × Int × Int × (List ByteArray))) => ⟨53, 1, [(0, [xP 0 0]), (2, [xP 1 0]), (3, [xP 2 0])], [oB 67 (bs (z03 (z00.mk x1.1 x1.2.1 x1.2.2.1 x1.2.2.2.1 x1.2.2.2.2.1 x1.2.2.2.2.2.1))), oB 71 [.pv (.str (ByteArray.mk #[])), .pv (.int .i64 0), .pv (.int .i64 0), .pv (.str (ByteArray.mk #[])), .pv (.str (ByteArray.mk #[])), .emp], oB 71 [.pv (.str v1.2), .pv (.int .i64 v2.2), .pv (.int .i64 v4.2), .pv (.str v6.2), .pv (.str v8.2), .row 3], oR true 9 1 (List.map z0a x1.2.2.2.2.2.2)]⟩) (fun (j1 : ((List z0n) × Int × Int × Int × Int × Int × (List ByteArray))) => ⟨53, 1, [(0, [xP 0 0]), (2, [xP 1 0]), (3, [xP 2 0])], [oB 67 (bs (z03 (z00.mk j1.1 j1.2.1 j1.2.2.1 j1.2.2.2.1 j1.2.2.2.2.1 j1.2.2.2.2.2.1))), oB 71 [.pv (.str (ByteArray.mk #[])), .pv (.int .i64 0), .pv (.int .i64 0), .pv (.str (ByteArray.mk #[])), .pv (.str (ByteArray.mk #[])), .emp], oB 71 [.pv (.str v1.2), .pv (.int .i64 v2.2), .pv (.int .i64 v4.2), .pv (.str v6.2), .pv (.str v8.2), .row 3], oR true 9 1 (List.map z0a j1.2.2.2.2.2.2)]⟩) zh2 (v10.1.f_l, v10.1.f_end, v10.1.f_e, v10.1.f_at, v10.1.f_deep, v10.1.f_in, v11) (fun _ => ⟨_, _, _, _, rfl⟩) h (by kernel_rfl) (fun x1 o h => ?_) (fun r' h => ?_) (fun j1 h => ?_)
  ·unfold z2g at h
   obtain ⟨v12, k13, h⟩ := z07 h
   refine adv (ok X) 3 [.s (z2v v12) (z2w v12)] (pA (z3b (X := X) k13) pT) (by kernel_rfl) ?_
   rcases iteE h with ⟨k14, h⟩ | ⟨k14, h⟩
   ·obtain ⟨v13, k15, h⟩ := z07 h
    obtain ⟨v14, k16, h⟩ := z07 h
    obtain rfl := retE h
    exact fin (ok X) 5 [.b true, .o [0, 1, 2, 3, 4, 5, 6, 7], .s (z27 v13) (z28 v13), .l (List.map z0a v14)] (pA k14 (pA (z2e (X := X) k15) (pA (apm (L := x1.2.2.2.2.2.2) (M := [v13.2]) zf2 k16) pT))) (by kernel_rfl)
   ·obtain rfl := retE h
    exact fin (ok X) 2 [.b false] (pA k14 pT) (by kernel_rfl)
  ·cases h
  ·obtain ⟨v15, k17, h⟩ := z07 h
   obtain ⟨v16, k18, h⟩ := z07 h
   obtain rfl := retE h
   exact fin (ok X) 7 [.s (z0x v15) (z0y v15), .s (z0x v16) (z0y v16)] (pA (z11 (X := X) k17) (pA (z11 (X := X) k18) pT)) (by kernel_rfl)

theorem zjg {a0 : z00} {r : (z00 × z5i)} (h : z7x a0 = some r) : Cs Tryz.prog (GX X) 18 [xP 0 0] [oB 67 (bs (z03 a0))] (zbf r) (zbg r) := by
 refine fnT (cx := cx X) Tryz.f18 Tryz.call18 Tryz.func18 (by kernel_rfl) ?_
 unfold z7x at h
 obtain ⟨v1, k1, h⟩ := z07 h
 obtain ⟨v2, k2, h⟩ := z07 h
 refine adv (ok X) 7 [.s (z27 v1) (z28 v1), .s (z0x v2) (z0y v2)] (pA (z2e (X := X) k1) (pA (z11 (X := X) k2) pT)) (by kernel_rfl) ?_
 refine lp (ok X) (z41) (fun (x1 : ((List z0n) × Int × Int × Int × Int × Int × (List z8e))) => ⟨38, 1, [(0, [xP 0 0]), (2, [xP 1 0]), (3, [xP 2 0])], [oB 67 (bs (z03 (z00.mk x1.1 x1.2.1 x1.2.2.1 x1.2.2.2.1 x1.2.2.2.2.1 x1.2.2.2.2.2.1))), oB 75 [.pv (.str (ByteArray.mk #[])), .emp], oB 75 [.pv (.str v1.2), .row 3], oR true 121 3 (List.map z9m x1.2.2.2.2.2.2)]⟩) (fun (j1 : ((List z0n) × Int × Int × Int × Int × Int × (List z8e))) => ⟨38, 1, [(0, [xP 0 0]), (2, [xP 1 0]), (3, [xP 2 0])], [oB 67 (bs (z03 (z00.mk j1.1 j1.2.1 j1.2.2.1 j1.2.2.2.1 j1.2.2.2.2.1 j1.2.2.2.2.2.1))), oB 75 [.pv (.str (ByteArray.mk #[])), .emp], oB 75 [.pv (.str v1.2), .row 3], oR true 121 3 (List.map z9m j1.2.2.2.2.2.2)]⟩) zj8 (v2.f_l, v2.f_end, v2.f_e, v2.f_at, v2.f_deep, v2.f_in, []) (fun _ => ⟨_, _, _, _, rfl⟩) h (by kernel_rfl) (fun x1 o h => ?_) (fun r' h => ?_) (fun j1 h => ?_)
 ·unfold z41 at h
  refine adv (ok X) 2 [] pT (by kernel_rfl) ?_
  refine jn (ok X) 1 (fun (j2 : Bool) => ⟨38, 1, [(0, [xP 0 0]), (2, [xP 1 0]), (3, [xP 2 0]), (19, [xB j2])], [oB 67 (bs (z03 (z00.mk x1.1 x1.2.1 x1.2.2.1 x1.2.2.2.1 x1.2.2.2.2.1 x1.2.2.2.2.2.1))), oB 75 [.pv (.str (ByteArray.mk #[])), .emp], oB 75 [.pv (.str v1.2), .row 3], oR true 121 3 (List.map z9m x1.2.2.2.2.2.2)]⟩) h (fun j2 h => ?_) (fun j2 h => ?_)
  ·rcases iteE h with ⟨k3, h⟩ | ⟨k3, h⟩
   ·obtain ⟨v3, k4, h⟩ := z07 h
    obtain rfl := retE h
    exact fin (ok X) 1 [.b true, .b true, .s (z5l v3) (z5m (z00.mk x1.1 x1.2.1 x1.2.2.1 x1.2.2.2.1 x1.2.2.2.2.1 x1.2.2.2.2.2.1) v3), .b true, .b true] (pA k3 (pA k3 (pA (z6b (X := X) k4) (pA k3 (pA k3 pT))))) (by kernel_rfl)
   ·obtain rfl := retE h
    exact fin (ok X) 1 (bF 4 []) (pR 4 k3 pT) (by kernel_rfl)
  ·rcases iteE h with ⟨k5, h⟩ | ⟨k5, h⟩
   ·obtain ⟨v4, k6, h⟩ := z07 h
    obtain ⟨v5, k7, h⟩ := z07 h
    obtain ⟨v6, k8, h⟩ := z07 h
    obtain ⟨v7, k9, h⟩ := z07 h
    obtain ⟨v8, k10, h⟩ := z07 h
    obtain rfl := retE h
    exact fin (ok X) 9 [.b true, .s (z7e v4) (z7f v4), .s (z27 v5) (z28 v5), .s (z7e v6) (z7f v6), .s (z0x v7) (z0y v7), .l (List.map z9m v8)] (pA k5 (pA (z8p (X := X) k6) (pA (z2e (X := X) k7) (pA (z8p (X := X) k8) (pA (z11 (X := X) k9) (pA (apm (L := x1.2.2.2.2.2.2) (M := [(z8e.mk v4.2 v5.2 v6.2)]) zo0 k10) pT)))))) (by kernel_rfl)
   ·obtain rfl := retE h
    exact fin (ok X) 2 [.b false] (pA k5 pT) (by kernel_rfl)
 ·cases h
 ·obtain ⟨v9, k11, h⟩ := z07 h
  obtain rfl := retE h
  exact fin (ok X) 5 [.s (z0x v9) (z0y v9)] (pA (z11 (X := X) k11) pT) (by kernel_rfl)

theorem ze1 {a0 : z00} {r : (z00 × Bool)} (h : z7h a0 = some r) : Cs Tryz.prog (GX X) 159 [xP 0 0] [oB 67 (bs (z03 a0))] (zat r) (zau r) := by
 refine fnT (cx := cx X) Tryz.f159 Tryz.call159 Tryz.func159 (by kernel_rfl) ?_
 unfold z7h at h
 rcases iteE h with ⟨k1, h⟩ | ⟨k1, h⟩
 ·obtain ⟨v1, k2, h⟩ := z07 h
  obtain rfl := retE h
  exact fin (ok X) 11 [.b true, .s (z5n v1) (z5o v1)] (pA k1 (pA (z6c (X := X) k2) pT)) (by kernel_rfl)
 ·obtain rfl := retE h
  exact fin (ok X) 12 [.b false] (pA k1 pT) (by kernel_rfl)

theorem zjh {n : Nat} (ih_parse_reader_expr : ∀ (a0 : z00) (r : (z00 × z05)), z1l n a0 = some r → Cs Tryz.prog (GX X) 110 [xP 0 0] [oB 67 (bs (z03 a0))] (z2x r) (z2y r)) (ih_parse_reader_chain_parse_reader_term : ∀ (a0 : z00) (a2 : (List ByteArray)) (a3 : Int) (r : (z00 × z05)), z0f n a0 a2 a3 = some r → Cs Tryz.prog (GX X) 127 [xP 0 0, .fn (.func 128) [.box 0 0] [], xL (List.map z0a a2), xI a3] [oB 67 (bs (z03 a0))] (z1a r) (z1b r)) (ih_parse_reader_term : ∀ (a0 : z00) (r : (z00 × z05)), z1f n a0 = some r → Cs Tryz.prog (GX X) 128 [xP 0 0] [oB 67 (bs (z03 a0))] (z4f r) (z4g r)) (ih_parse_reader_chain_parse_reader_factor : ∀ (a0 : z00) (a2 : (List ByteArray)) (a3 : Int) (r : (z00 × z05)), z0c n a0 a2 a3 = some r → Cs Tryz.prog (GX X) 127 [xP 0 0, .fn (.func 141) [.box 0 0] [], xL (List.map z0a a2), xI a3] [oB 67 (bs (z03 a0))] (z15 r) (z16 r)) (ih_parse_reader_factor : ∀ (a0 : z00) (r : (z00 × z05)), z0s n a0 = some r → Cs Tryz.prog (GX X) 141 [xP 0 0] [oB 67 (bs (z03 a0))] (z3j r) (z3k r)) (ih_parse_reader_negated : ∀ (a0 : z00) (r : (z00 × z05)), z1h n a0 = some r → Cs Tryz.prog (GX X) 152 [xP 0 0] [oB 67 (bs (z03 a0))] (z3w r) (z3x r)) (ih_parse_reader_parens : ∀ (a0 : z00) (r : (z00 × z05)), z1m n a0 = some r → Cs Tryz.prog (GX X) 153 [xP 0 0] [oB 67 (bs (z03 a0))] (z44 r) (z45 r)) (a0 : z00) (r : (z00 × z05)) (h : z1l (n + 1) a0 = some r) : Cs Tryz.prog (GX X) 110 [xP 0 0] [oB 67 (bs (z03 a0))] (z2x r) (z2y r) := by
 refine fnT (cx := cx X) Tryz.f110 Tryz.call110 Tryz.func110 (by kernel_rfl) ?_
 rw [z1l] at h
 obtain ⟨v1, k1, h⟩ := z07 h
 obtain rfl := retE h
 exact fin (ok X) 5 [.s (z1a v1) (z1b v1)] (pA (ih_parse_reader_chain_parse_reader_term _ _ _ _ k1) pT) (by kernel_rfl)

theorem zar {n : Nat} (ih_parse_reader_expr : ∀ (a0 : z00) (r : (z00 × z05)), z1l n a0 = some r → Cs Tryz.prog (GX X) 110 [xP 0 0] [oB 67 (bs (z03 a0))] (z2x r) (z2y r)) (ih_parse_reader_chain_parse_reader_term : ∀ (a0 : z00) (a2 : (List ByteArray)) (a3 : Int) (r : (z00 × z05)), z0f n a0 a2 a3 = some r → Cs Tryz.prog (GX X) 127 [xP 0 0, .fn (.func 128) [.box 0 0] [], xL (List.map z0a a2), xI a3] [oB 67 (bs (z03 a0))] (z1a r) (z1b r)) (ih_parse_reader_term : ∀ (a0 : z00) (r : (z00 × z05)), z1f n a0 = some r → Cs Tryz.prog (GX X) 128 [xP 0 0] [oB 67 (bs (z03 a0))] (z4f r) (z4g r)) (ih_parse_reader_chain_parse_reader_factor : ∀ (a0 : z00) (a2 : (List ByteArray)) (a3 : Int) (r : (z00 × z05)), z0c n a0 a2 a3 = some r → Cs Tryz.prog (GX X) 127 [xP 0 0, .fn (.func 141) [.box 0 0] [], xL (List.map z0a a2), xI a3] [oB 67 (bs (z03 a0))] (z15 r) (z16 r)) (ih_parse_reader_factor : ∀ (a0 : z00) (r : (z00 × z05)), z0s n a0 = some r → Cs Tryz.prog (GX X) 141 [xP 0 0] [oB 67 (bs (z03 a0))] (z3j r) (z3k r)) (ih_parse_reader_negated : ∀ (a0 : z00) (r : (z00 × z05)), z1h n a0 = some r → Cs Tryz.prog (GX X) 152 [xP 0 0] [oB 67 (bs (z03 a0))] (z3w r) (z3x r)) (ih_parse_reader_parens : ∀ (a0 : z00) (r : (z00 × z05)), z1m n a0 = some r → Cs Tryz.prog (GX X) 153 [xP 0 0] [oB 67 (bs (z03 a0))] (z44 r) (z45 r)) (a0 : z00) (a2 : (List ByteArray)) (a3 : Int) (r : (z00 × z05)) (h : z0f (n + 1) a0 a2 a3 = some r) : Cs Tryz.prog (GX X) 127 [xP 0 0, .fn (.func 128) [.box 0 0] [], xL (List.map z0a a2), xI a3] [oB 67 (bs (z03 a0))] (z1a r) (z1b r) := by
 refine fnT (cx := cx X) Tryz.f127 Tryz.call127 Tryz.func127 (by kernel_rfl) ?_
 rw [z0f] at h
 obtain ⟨v1, k1, h⟩ := z07 h
 refine adv (ok X) 5 [.s (z4f v1) (z4g v1)] (pA (ih_parse_reader_term _ _ k1) pT) (by kernel_rfl) ?_
 refine lp (ok X) (z33 (z1l n) (z0f n) (z1f n) (z0c n) (z0s n) (z1h n) (z1m n) a2 a3) (fun (x1 : ((List z0n) × Int × Int × Int × Int × Int × Int × Int × ByteArray × (List z05))) => ⟨32, 1, [(0, [xP 0 0]), (1, [.fn (.func 128) [.box 0 0] []]), (2, [xL (List.map z0a a2)]), (3, [xI a3]), (8, [xP 1 0]), (9, [xP 2 0])], [oB 67 (bs (z03 (z00.mk x1.1 x1.2.1 x1.2.2.1 x1.2.2.2.1 x1.2.2.2.2.1 x1.2.2.2.2.2.1))), oB 154 [.pv (.int .i64 0), .pv (.int .i64 0), .pv (.str (ByteArray.mk #[])), .emp], oB 154 (bs (z0p (z05.mk x1.2.2.2.2.2.2.1 x1.2.2.2.2.2.2.2.1 x1.2.2.2.2.2.2.2.2.1 x1.2.2.2.2.2.2.2.2.2)))]⟩) (fun (j1 : ((List z0n) × Int × Int × Int × Int × Int × Int × Int × ByteArray × (List z05))) => ⟨32, 1, [(8, [xP 1 0]), (9, [xP 2 0])], [oB 67 (bs (z03 (z00.mk j1.1 j1.2.1 j1.2.2.1 j1.2.2.2.1 j1.2.2.2.2.1 j1.2.2.2.2.2.1))), oB 154 [.pv (.int .i64 0), .pv (.int .i64 0), .pv (.str (ByteArray.mk #[])), .emp], oB 154 (bs (z0p (z05.mk j1.2.2.2.2.2.2.1 j1.2.2.2.2.2.2.2.1 j1.2.2.2.2.2.2.2.2.1 j1.2.2.2.2.2.2.2.2.2)))]⟩) zam (v1.1.f_l, v1.1.f_end, v1.1.f_e, v1.1.f_at, v1.1.f_deep, v1.1.f_in, v1.2.Kind, v1.2.Num, v1.2.Name, v1.2.Kids) (fun _ => ⟨_, _, _, _, rfl⟩) h (by kernel_rfl) (fun x1 o h => ?_) (fun r' h => ?_) (fun j1 h => ?_)
 ·unfold z33 at h
  rcases iteE h with ⟨k2, h⟩ | ⟨k2, h⟩
  ·obtain ⟨v2, k3, h⟩ := z07 h
   refine adv (ok X) 11 [.b true, .s (z7s v2) (z7t v2)] (pA k2 (pA (z8z (X := X) k3) pT)) (by kernel_rfl) ?_
   rcases iteE h with ⟨k4, h⟩ | ⟨k4, h⟩
   ·obtain rfl := retE h
    exact fin (ok X) 2 [.b true] (pA k4 pT) (by kernel_rfl)
   ·obtain ⟨v3, k5, h⟩ := z07 h
    obtain rfl := retE h
    exact fin (ok X) 4 [.b false, .o [0, 1, 2, 3, 4, 5, 6, 7, 8], .s (z4f v3) (z4g v3), .bl (List.map z2s [(z05.mk x1.2.2.2.2.2.2.1 x1.2.2.2.2.2.2.2.1 x1.2.2.2.2.2.2.2.2.1 x1.2.2.2.2.2.2.2.2.2), v3.2])] (pA k4 (pA (ih_parse_reader_term _ _ k5) (pA (blc (e := z2s) (x := (z05.mk x1.2.2.2.2.2.2.1 x1.2.2.2.2.2.2.2.1 x1.2.2.2.2.2.2.2.2.1 x1.2.2.2.2.2.2.2.2.2)) (z65 _).symm (blc (e := z2s) (x := v3.2) (z65 _).symm (bl0 z2s))) pT))) (by kernel_rfl)
  ·obtain rfl := retE h
   exact fin (ok X) 5 [.b false] (pA k2 pT) (by kernel_rfl)
 ·cases h
 ·obtain rfl := retE h
  exact fin (ok X) 3 [] pT (by kernel_rfl)

theorem zji {n : Nat} (ih_parse_reader_expr : ∀ (a0 : z00) (r : (z00 × z05)), z1l n a0 = some r → Cs Tryz.prog (GX X) 110 [xP 0 0] [oB 67 (bs (z03 a0))] (z2x r) (z2y r)) (ih_parse_reader_chain_parse_reader_term : ∀ (a0 : z00) (a2 : (List ByteArray)) (a3 : Int) (r : (z00 × z05)), z0f n a0 a2 a3 = some r → Cs Tryz.prog (GX X) 127 [xP 0 0, .fn (.func 128) [.box 0 0] [], xL (List.map z0a a2), xI a3] [oB 67 (bs (z03 a0))] (z1a r) (z1b r)) (ih_parse_reader_term : ∀ (a0 : z00) (r : (z00 × z05)), z1f n a0 = some r → Cs Tryz.prog (GX X) 128 [xP 0 0] [oB 67 (bs (z03 a0))] (z4f r) (z4g r)) (ih_parse_reader_chain_parse_reader_factor : ∀ (a0 : z00) (a2 : (List ByteArray)) (a3 : Int) (r : (z00 × z05)), z0c n a0 a2 a3 = some r → Cs Tryz.prog (GX X) 127 [xP 0 0, .fn (.func 141) [.box 0 0] [], xL (List.map z0a a2), xI a3] [oB 67 (bs (z03 a0))] (z15 r) (z16 r)) (ih_parse_reader_factor : ∀ (a0 : z00) (r : (z00 × z05)), z0s n a0 = some r → Cs Tryz.prog (GX X) 141 [xP 0 0] [oB 67 (bs (z03 a0))] (z3j r) (z3k r)) (ih_parse_reader_negated : ∀ (a0 : z00) (r : (z00 × z05)), z1h n a0 = some r → Cs Tryz.prog (GX X) 152 [xP 0 0] [oB 67 (bs (z03 a0))] (z3w r) (z3x r)) (ih_parse_reader_parens : ∀ (a0 : z00) (r : (z00 × z05)), z1m n a0 = some r → Cs Tryz.prog (GX X) 153 [xP 0 0] [oB 67 (bs (z03 a0))] (z44 r) (z45 r)) (a0 : z00) (r : (z00 × z05)) (h : z1f (n + 1) a0 = some r) : Cs Tryz.prog (GX X) 128 [xP 0 0] [oB 67 (bs (z03 a0))] (z4f r) (z4g r) := by
 refine fnT (cx := cx X) Tryz.f128 Tryz.call128 Tryz.func128 (by kernel_rfl) ?_
 rw [z1f] at h
 obtain ⟨v1, k1, h⟩ := z07 h
 obtain rfl := retE h
 exact fin (ok X) 5 [.s (z15 v1) (z16 v1)] (pA (ih_parse_reader_chain_parse_reader_factor _ _ _ _ k1) pT) (by kernel_rfl)

theorem z9z {n : Nat} (ih_parse_reader_expr : ∀ (a0 : z00) (r : (z00 × z05)), z1l n a0 = some r → Cs Tryz.prog (GX X) 110 [xP 0 0] [oB 67 (bs (z03 a0))] (z2x r) (z2y r)) (ih_parse_reader_chain_parse_reader_term : ∀ (a0 : z00) (a2 : (List ByteArray)) (a3 : Int) (r : (z00 × z05)), z0f n a0 a2 a3 = some r → Cs Tryz.prog (GX X) 127 [xP 0 0, .fn (.func 128) [.box 0 0] [], xL (List.map z0a a2), xI a3] [oB 67 (bs (z03 a0))] (z1a r) (z1b r)) (ih_parse_reader_term : ∀ (a0 : z00) (r : (z00 × z05)), z1f n a0 = some r → Cs Tryz.prog (GX X) 128 [xP 0 0] [oB 67 (bs (z03 a0))] (z4f r) (z4g r)) (ih_parse_reader_chain_parse_reader_factor : ∀ (a0 : z00) (a2 : (List ByteArray)) (a3 : Int) (r : (z00 × z05)), z0c n a0 a2 a3 = some r → Cs Tryz.prog (GX X) 127 [xP 0 0, .fn (.func 141) [.box 0 0] [], xL (List.map z0a a2), xI a3] [oB 67 (bs (z03 a0))] (z15 r) (z16 r)) (ih_parse_reader_factor : ∀ (a0 : z00) (r : (z00 × z05)), z0s n a0 = some r → Cs Tryz.prog (GX X) 141 [xP 0 0] [oB 67 (bs (z03 a0))] (z3j r) (z3k r)) (ih_parse_reader_negated : ∀ (a0 : z00) (r : (z00 × z05)), z1h n a0 = some r → Cs Tryz.prog (GX X) 152 [xP 0 0] [oB 67 (bs (z03 a0))] (z3w r) (z3x r)) (ih_parse_reader_parens : ∀ (a0 : z00) (r : (z00 × z05)), z1m n a0 = some r → Cs Tryz.prog (GX X) 153 [xP 0 0] [oB 67 (bs (z03 a0))] (z44 r) (z45 r)) (a0 : z00) (a2 : (List ByteArray)) (a3 : Int) (r : (z00 × z05)) (h : z0c (n + 1) a0 a2 a3 = some r) : Cs Tryz.prog (GX X) 127 [xP 0 0, .fn (.func 141) [.box 0 0] [], xL (List.map z0a a2), xI a3] [oB 67 (bs (z03 a0))] (z15 r) (z16 r) := by
 refine fnT (cx := cx X) Tryz.f127 Tryz.call127 Tryz.func127 (by kernel_rfl) ?_
 rw [z0c] at h
 obtain ⟨v1, k1, h⟩ := z07 h
 refine adv (ok X) 5 [.s (z3j v1) (z3k v1)] (pA (ih_parse_reader_factor _ _ k1) pT) (by kernel_rfl) ?_
 refine lp (ok X) (z2u (z1l n) (z0f n) (z1f n) (z0c n) (z0s n) (z1h n) (z1m n) a2 a3) (fun (x1 : ((List z0n) × Int × Int × Int × Int × Int × Int × Int × ByteArray × (List z05))) => ⟨32, 1, [(0, [xP 0 0]), (1, [.fn (.func 141) [.box 0 0] []]), (2, [xL (List.map z0a a2)]), (3, [xI a3]), (8, [xP 1 0]), (9, [xP 2 0])], [oB 67 (bs (z03 (z00.mk x1.1 x1.2.1 x1.2.2.1 x1.2.2.2.1 x1.2.2.2.2.1 x1.2.2.2.2.2.1))), oB 154 [.pv (.int .i64 0), .pv (.int .i64 0), .pv (.str (ByteArray.mk #[])), .emp], oB 154 (bs (z0p (z05.mk x1.2.2.2.2.2.2.1 x1.2.2.2.2.2.2.2.1 x1.2.2.2.2.2.2.2.2.1 x1.2.2.2.2.2.2.2.2.2)))]⟩) (fun (j1 : ((List z0n) × Int × Int × Int × Int × Int × Int × Int × ByteArray × (List z05))) => ⟨32, 1, [(8, [xP 1 0]), (9, [xP 2 0])], [oB 67 (bs (z03 (z00.mk j1.1 j1.2.1 j1.2.2.1 j1.2.2.2.1 j1.2.2.2.2.1 j1.2.2.2.2.2.1))), oB 154 [.pv (.int .i64 0), .pv (.int .i64 0), .pv (.str (ByteArray.mk #[])), .emp], oB 154 (bs (z0p (z05.mk j1.2.2.2.2.2.2.1 j1.2.2.2.2.2.2.2.1 j1.2.2.2.2.2.2.2.2.1 j1.2.2.2.2.2.2.2.2.2)))]⟩) z9y (v1.1.f_l, v1.1.f_end, v1.1.f_e, v1.1.f_at, v1.1.f_deep, v1.1.f_in, v1.2.Kind, v1.2.Num, v1.2.Name, v1.2.Kids) (fun _ => ⟨_, _, _, _, rfl⟩) h (by kernel_rfl) (fun x1 o h => ?_) (fun r' h => ?_) (fun j1 h => ?_)
 ·unfold z2u at h
  rcases iteE h with ⟨k2, h⟩ | ⟨k2, h⟩
  ·obtain ⟨v2, k3, h⟩ := z07 h
   refine adv (ok X) 11 [.b true, .s (z7s v2) (z7t v2)] (pA k2 (pA (z8z (X := X) k3) pT)) (by kernel_rfl) ?_
   rcases iteE h with ⟨k4, h⟩ | ⟨k4, h⟩
   ·obtain rfl := retE h
    exact fin (ok X) 2 [.b true] (pA k4 pT) (by kernel_rfl)
   ·obtain ⟨v3, k5, h⟩ := z07 h
    obtain rfl := retE h
    exact fin (ok X) 4 [.b false, .o [0, 1, 2, 3, 4, 5, 6, 7, 8], .s (z3j v3) (z3k v3), .bl (List.map z2s [(z05.mk x1.2.2.2.2.2.2.1 x1.2.2.2.2.2.2.2.1 x1.2.2.2.2.2.2.2.2.1 x1.2.2.2.2.2.2.2.2.2), v3.2])] (pA k4 (pA (ih_parse_reader_factor _ _ k5) (pA (blc (e := z2s) (x := (z05.mk x1.2.2.2.2.2.2.1 x1.2.2.2.2.2.2.2.1 x1.2.2.2.2.2.2.2.2.1 x1.2.2.2.2.2.2.2.2.2)) (z65 _).symm (blc (e := z2s) (x := v3.2) (z65 _).symm (bl0 z2s))) pT))) (by kernel_rfl)
  ·obtain rfl := retE h
   exact fin (ok X) 5 [.b false] (pA k2 pT) (by kernel_rfl)
 ·cases h
 ·obtain rfl := retE h
  exact fin (ok X) 3 [] pT (by kernel_rfl)

theorem zhn {n : Nat} (ih_parse_reader_expr : ∀ (a0 : z00) (r : (z00 × z05)), z1l n a0 = some r → Cs Tryz.prog (GX X) 110 [xP 0 0] [oB 67 (bs (z03 a0))] (z2x r) (z2y r)) (ih_parse_reader_chain_parse_reader_term : ∀ (a0 : z00) (a2 : (List ByteArray)) (a3 : Int) (r : (z00 × z05)), z0f n a0 a2 a3 = some r → Cs Tryz.prog (GX X) 127 [xP 0 0, .fn (.func 128) [.box 0 0] [], xL (List.map z0a a2), xI a3] [oB 67 (bs (z03 a0))] (z1a r) (z1b r)) (ih_parse_reader_term : ∀ (a0 : z00) (r : (z00 × z05)), z1f n a0 = some r → Cs Tryz.prog (GX X) 128 [xP 0 0] [oB 67 (bs (z03 a0))] (z4f r) (z4g r)) (ih_parse_reader_chain_parse_reader_factor : ∀ (a0 : z00) (a2 : (List ByteArray)) (a3 : Int) (r : (z00 × z05)), z0c n a0 a2 a3 = some r → Cs Tryz.prog (GX X) 127 [xP 0 0, .fn (.func 141) [.box 0 0] [], xL (List.map z0a a2), xI a3] [oB 67 (bs (z03 a0))] (z15 r) (z16 r)) (ih_parse_reader_factor : ∀ (a0 : z00) (r : (z00 × z05)), z0s n a0 = some r → Cs Tryz.prog (GX X) 141 [xP 0 0] [oB 67 (bs (z03 a0))] (z3j r) (z3k r)) (ih_parse_reader_negated : ∀ (a0 : z00) (r : (z00 × z05)), z1h n a0 = some r → Cs Tryz.prog (GX X) 152 [xP 0 0] [oB 67 (bs (z03 a0))] (z3w r) (z3x r)) (ih_parse_reader_parens : ∀ (a0 : z00) (r : (z00 × z05)), z1m n a0 = some r → Cs Tryz.prog (GX X) 153 [xP 0 0] [oB 67 (bs (z03 a0))] (z44 r) (z45 r)) (a0 : z00) (r : (z00 × z05)) (h : z0s (n + 1) a0 = some r) : Cs Tryz.prog (GX X) 141 [xP 0 0] [oB 67 (bs (z03 a0))] (z3j r) (z3k r) := by
 refine fnT (cx := cx X) Tryz.f141 Tryz.call141 Tryz.func141 (by kernel_rfl) ?_
 rw [z0s] at h
 obtain ⟨v1, k1, h⟩ := z07 h
 refine adv (ok X) 6 [.s (z5l v1) (z5m a0 v1)] (pA (z6b (X := X) k1) pT) (by kernel_rfl) ?_
 rcases iteE h with ⟨k2, h⟩ | ⟨k2, h⟩
 ·obtain ⟨v2, k3, h⟩ := z07 h
  obtain rfl := retE h
  exact fin (ok X) 4 [.b true, .s (z3w v2) (z3x v2)] (pA k2 (pA (ih_parse_reader_negated _ _ k3) pT)) (by kernel_rfl)
 ·obtain ⟨v3, k4, h⟩ := z07 h
  refine adv (ok X) 3 [.b false, .s (z5l v3) (z5m a0 v3)] (pA k2 (pA (z6b (X := X) k4) pT)) (by kernel_rfl) ?_
  rcases iteE h with ⟨k5, h⟩ | ⟨k5, h⟩
  ·obtain ⟨v4, k6, h⟩ := z07 h
   obtain rfl := retE h
   exact fin (ok X) 4 [.b true, .s (z44 v4) (z45 v4)] (pA k5 (pA (ih_parse_reader_parens _ _ k6) pT)) (by kernel_rfl)
  ·obtain ⟨v5, k7, h⟩ := z07 h
   refine adv (ok X) 3 [.b false, .s (zak v5) (zal a0 v5)] (pA k5 (pA (zd4 (X := X) k7) pT)) (by kernel_rfl) ?_
   rcases iteE h with ⟨k8, h⟩ | ⟨k8, h⟩
   ·obtain ⟨v6, k9, h⟩ := z07 h
    obtain rfl := retE h
    exact fin (ok X) 4 [.b true, .s (z7e v6) (z7f v6)] (pA k8 (pA (z8p (X := X) k9) pT)) (by kernel_rfl)
   ·obtain ⟨v7, k10, h⟩ := z07 h
    obtain rfl := retE h
    exact fin (ok X) 6 [.b false, .s (z27 v7) (z28 v7)] (pA k8 (pA (z2e (X := X) k10) pT)) (by kernel_rfl)

theorem zh4 {n : Nat} (ih_parse_reader_expr : ∀ (a0 : z00) (r : (z00 × z05)), z1l n a0 = some r → Cs Tryz.prog (GX X) 110 [xP 0 0] [oB 67 (bs (z03 a0))] (z2x r) (z2y r)) (ih_parse_reader_chain_parse_reader_term : ∀ (a0 : z00) (a2 : (List ByteArray)) (a3 : Int) (r : (z00 × z05)), z0f n a0 a2 a3 = some r → Cs Tryz.prog (GX X) 127 [xP 0 0, .fn (.func 128) [.box 0 0] [], xL (List.map z0a a2), xI a3] [oB 67 (bs (z03 a0))] (z1a r) (z1b r)) (ih_parse_reader_term : ∀ (a0 : z00) (r : (z00 × z05)), z1f n a0 = some r → Cs Tryz.prog (GX X) 128 [xP 0 0] [oB 67 (bs (z03 a0))] (z4f r) (z4g r)) (ih_parse_reader_chain_parse_reader_factor : ∀ (a0 : z00) (a2 : (List ByteArray)) (a3 : Int) (r : (z00 × z05)), z0c n a0 a2 a3 = some r → Cs Tryz.prog (GX X) 127 [xP 0 0, .fn (.func 141) [.box 0 0] [], xL (List.map z0a a2), xI a3] [oB 67 (bs (z03 a0))] (z15 r) (z16 r)) (ih_parse_reader_factor : ∀ (a0 : z00) (r : (z00 × z05)), z0s n a0 = some r → Cs Tryz.prog (GX X) 141 [xP 0 0] [oB 67 (bs (z03 a0))] (z3j r) (z3k r)) (ih_parse_reader_negated : ∀ (a0 : z00) (r : (z00 × z05)), z1h n a0 = some r → Cs Tryz.prog (GX X) 152 [xP 0 0] [oB 67 (bs (z03 a0))] (z3w r) (z3x r)) (ih_parse_reader_parens : ∀ (a0 : z00) (r : (z00 × z05)), z1m n a0 = some r → Cs Tryz.prog (GX X) 153 [xP 0 0] [oB 67 (bs (z03 a0))] (z44 r) (z45 r)) (a0 : z00) (r : (z00 × z05)) (h : z1h (n + 1) a0 = some r) : Cs Tryz.prog (GX X) 152 [xP 0 0] [oB 67 (bs (z03 a0))] (z3w r) (z3x r) := by
 refine fnT (cx := cx X) Tryz.f152 Tryz.call152 Tryz.func152 (by kernel_rfl) ?_
 rw [z1h] at h
 obtain ⟨v1, k1, h⟩ := z07 h
 refine adv (ok X) 5 [.s (zat v1) (zau v1)] (pA (ze1 (X := X) k1) pT) (by kernel_rfl) ?_
 rcases iteE h with ⟨k2, h⟩ | ⟨k2, h⟩
 ·obtain rfl := retE h
  exact fin (ok X) 4 [.b true] (pA k2 pT) (by kernel_rfl)
 ·obtain ⟨v2, k3, h⟩ := z07 h
  obtain ⟨v3, k4, h⟩ := z07 h
  obtain rfl := retE h
  exact fin (ok X) 11 [.b false, .s (z0x v2) (z0y v2), .s (z3j v3) (z3k v3), .bl (List.map z2s [v3.2])] (pA k2 (pA (z11 (X := X) k3) (pA (ih_parse_reader_factor _ _ k4) (pA (blc (e := z2s) (x := v3.2) (z65 _).symm (bl0 z2s)) pT)))) (by kernel_rfl)

theorem zho {n : Nat} (ih_parse_reader_expr : ∀ (a0 : z00) (r : (z00 × z05)), z1l n a0 = some r → Cs Tryz.prog (GX X) 110 [xP 0 0] [oB 67 (bs (z03 a0))] (z2x r) (z2y r)) (ih_parse_reader_chain_parse_reader_term : ∀ (a0 : z00) (a2 : (List ByteArray)) (a3 : Int) (r : (z00 × z05)), z0f n a0 a2 a3 = some r → Cs Tryz.prog (GX X) 127 [xP 0 0, .fn (.func 128) [.box 0 0] [], xL (List.map z0a a2), xI a3] [oB 67 (bs (z03 a0))] (z1a r) (z1b r)) (ih_parse_reader_term : ∀ (a0 : z00) (r : (z00 × z05)), z1f n a0 = some r → Cs Tryz.prog (GX X) 128 [xP 0 0] [oB 67 (bs (z03 a0))] (z4f r) (z4g r)) (ih_parse_reader_chain_parse_reader_factor : ∀ (a0 : z00) (a2 : (List ByteArray)) (a3 : Int) (r : (z00 × z05)), z0c n a0 a2 a3 = some r → Cs Tryz.prog (GX X) 127 [xP 0 0, .fn (.func 141) [.box 0 0] [], xL (List.map z0a a2), xI a3] [oB 67 (bs (z03 a0))] (z15 r) (z16 r)) (ih_parse_reader_factor : ∀ (a0 : z00) (r : (z00 × z05)), z0s n a0 = some r → Cs Tryz.prog (GX X) 141 [xP 0 0] [oB 67 (bs (z03 a0))] (z3j r) (z3k r)) (ih_parse_reader_negated : ∀ (a0 : z00) (r : (z00 × z05)), z1h n a0 = some r → Cs Tryz.prog (GX X) 152 [xP 0 0] [oB 67 (bs (z03 a0))] (z3w r) (z3x r)) (ih_parse_reader_parens : ∀ (a0 : z00) (r : (z00 × z05)), z1m n a0 = some r → Cs Tryz.prog (GX X) 153 [xP 0 0] [oB 67 (bs (z03 a0))] (z44 r) (z45 r)) (a0 : z00) (r : (z00 × z05)) (h : z1m (n + 1) a0 = some r) : Cs Tryz.prog (GX X) 153 [xP 0 0] [oB 67 (bs (z03 a0))] (z44 r) (z45 r) := by
 refine fnT (cx := cx X) Tryz.f153 Tryz.call153 Tryz.func153 (by kernel_rfl) ?_
 rw [z1m] at h
 obtain ⟨v1, k1, h⟩ := z07 h
 refine adv (ok X) 5 [.s (zat v1) (zau v1)] (pA (ze1 (X := X) k1) pT) (by kernel_rfl) ?_
 rcases iteE h with ⟨k2, h⟩ | ⟨k2, h⟩
 ·obtain rfl := retE h
  exact fin (ok X) 4 [.b true] (pA k2 pT) (by kernel_rfl)
 ·obtain ⟨v2, k3, h⟩ := z07 h
  obtain ⟨v3, k4, h⟩ := z07 h
  obtain ⟨v4, k5, h⟩ := z07 h
  obtain rfl := retE h
  exact fin (ok X) 13 [.b false, .s (z0x v2) (z0y v2), .s (z2x v3) (z2y v3), .s (z0x v4) (z0y v4)] (pA k2 (pA (z11 (X := X) k3) (pA (ih_parse_reader_expr _ _ k4) (pA (z11 (X := X) k5) pT)))) (by kernel_rfl)

theorem zdm : ∀ n : Nat, (∀ (a0 : z00) (r : (z00 × z05)), z1l n a0 = some r → Cs Tryz.prog (GX X) 110 [xP 0 0] [oB 67 (bs (z03 a0))] (z2x r) (z2y r)) ∧ (∀ (a0 : z00) (a2 : (List ByteArray)) (a3 : Int) (r : (z00 × z05)), z0f n a0 a2 a3 = some r → Cs Tryz.prog (GX X) 127 [xP 0 0, .fn (.func 128) [.box 0 0] [], xL (List.map z0a a2), xI a3] [oB 67 (bs (z03 a0))] (z1a r) (z1b r)) ∧ (∀ (a0 : z00) (r : (z00 × z05)), z1f n a0 = some r → Cs Tryz.prog (GX X) 128 [xP 0 0] [oB 67 (bs (z03 a0))] (z4f r) (z4g r)) ∧ (∀ (a0 : z00) (a2 : (List ByteArray)) (a3 : Int) (r : (z00 × z05)), z0c n a0 a2 a3 = some r → Cs Tryz.prog (GX X) 127 [xP 0 0, .fn (.func 141) [.box 0 0] [], xL (List.map z0a a2), xI a3] [oB 67 (bs (z03 a0))] (z15 r) (z16 r)) ∧ (∀ (a0 : z00) (r : (z00 × z05)), z0s n a0 = some r → Cs Tryz.prog (GX X) 141 [xP 0 0] [oB 67 (bs (z03 a0))] (z3j r) (z3k r)) ∧ (∀ (a0 : z00) (r : (z00 × z05)), z1h n a0 = some r → Cs Tryz.prog (GX X) 152 [xP 0 0] [oB 67 (bs (z03 a0))] (z3w r) (z3x r)) ∧ (∀ (a0 : z00) (r : (z00 × z05)), z1m n a0 = some r → Cs Tryz.prog (GX X) 153 [xP 0 0] [oB 67 (bs (z03 a0))] (z44 r) (z45 r))
 | 0 => ⟨(fun _ _ h => by rw [z1l] at h; cases h), (fun _ _ _ _ h => by rw [z0f] at h; cases h), (fun _ _ h => by rw [z1f] at h; cases h), (fun _ _ _ _ h => by rw [z0c] at h; cases h), (fun _ _ h => by rw [z0s] at h; cases h), (fun _ _ h => by rw [z1h] at h; cases h), (fun _ _ h => by rw [z1m] at h; cases h)⟩
 | n + 1 => by
  have ih := zdm n
  exact ⟨zjh ih.1 ih.2.1 ih.2.2.1 ih.2.2.2.1 ih.2.2.2.2.1 ih.2.2.2.2.2.1 ih.2.2.2.2.2.2, zar ih.1 ih.2.1 ih.2.2.1 ih.2.2.2.1 ih.2.2.2.2.1 ih.2.2.2.2.2.1 ih.2.2.2.2.2.2, zji ih.1 ih.2.1 ih.2.2.1 ih.2.2.2.1 ih.2.2.2.2.1 ih.2.2.2.2.2.1 ih.2.2.2.2.2.2, z9z ih.1 ih.2.1 ih.2.2.1 ih.2.2.2.1 ih.2.2.2.2.1 ih.2.2.2.2.2.1 ih.2.2.2.2.2.2, zhn ih.1 ih.2.1 ih.2.2.1 ih.2.2.2.1 ih.2.2.2.2.1 ih.2.2.2.2.2.1 ih.2.2.2.2.2.2, zh4 ih.1 ih.2.1 ih.2.2.1 ih.2.2.2.1 ih.2.2.2.2.1 ih.2.2.2.2.2.1 ih.2.2.2.2.2.2, zho ih.1 ih.2.1 ih.2.2.1 ih.2.2.2.1 ih.2.2.2.2.1 ih.2.2.2.2.2.1 ih.2.2.2.2.2.2⟩

theorem z9f {a0 : z00} {r : (z00 × z05)} (h : z5y a0 = some r) : Cs Tryz.prog (GX X) 110 [xP 0 0] [oB 67 (bs (z03 a0))] (z2x r) (z2y r) := by
 obtain ⟨n, hn⟩ := unfE h
 exact (zdm n).1 _ _ hn

theorem zjj {a0 : z00} {r : (z00 × z06)} (h : z7y a0 = some r) : Cs Tryz.prog (GX X) 83 [xP 0 0] [oB 67 (bs (z03 a0))] (zeq r) (zer r) := by
 refine fnT (cx := cx X) Tryz.f83 Tryz.call83 Tryz.func83 (by kernel_rfl) ?_
 unfold z7y at h
 obtain ⟨v1, k1, h⟩ := z07 h
 obtain ⟨v2, k2, h⟩ := z07 h
 obtain ⟨v3, k3, h⟩ := z07 h
 obtain ⟨v4, k4, h⟩ := z07 h
 obtain ⟨v5, k5, h⟩ := z07 h
 obtain ⟨v6, k6, h⟩ := z07 h
 obtain ⟨v7, k7, h⟩ := z07 h
 obtain rfl := retE h
 exact fin (ok X) 19 [.s (z27 v1) (z28 v1), .s (z0x v2) (z0y v2), .s (z27 v3) (z28 v3), .s (z0x v4) (z0y v4), .s (z2x v5) (z2y v5), .s (z0x v6) (z0y v6), .s (z0x v7) (z0y v7)] (pA (z2e (X := X) k1) (pA (z11 (X := X) k2) (pA (z2e (X := X) k3) (pA (z11 (X := X) k4) (pA (z9f (X := X) k5) (pA (z11 (X := X) k6) (pA (z11 (X := X) k7) pT))))))) (by kernel_rfl)

theorem zbs {a0 : z00} {r : (z00 × z5j)} (h : z5z a0 = some r) : Cs Tryz.prog (GX X) 108 [xP 0 0] [oB 67 (bs (z03 a0))] (z9a r) (z9b r) := by
 refine fnT (cx := cx X) Tryz.f108 Tryz.call108 Tryz.func108 (by kernel_rfl) ?_
 unfold z5z at h
 obtain ⟨v1, k1, h⟩ := z07 h
 obtain ⟨v2, k2, h⟩ := z07 h
 obtain ⟨v3, k3, h⟩ := z07 h
 refine adv (ok X) 11 [.s (z0x v1) (z0y v1), .s (z2x v2) (z2y v2), .s (z7s v3) (z7t v3)] (pA (z11 (X := X) k1) (pA (z9f (X := X) k2) (pA (z8z (X := X) k3) pT))) (by kernel_rfl) ?_
 rcases iteE h with ⟨k4, h⟩ | ⟨k4, h⟩
 ·obtain ⟨v4, k5, h⟩ := z07 h
  obtain rfl := retE h
  exact fin (ok X) 6 [.b true, .s (z5n v4) (z5o v4)] (pA k4 (pA (z6c (X := X) k5) pT)) (by kernel_rfl)
 ·obtain ⟨v5, k6, h⟩ := z07 h
  obtain ⟨v6, k7, h⟩ := z07 h
  obtain rfl := retE h
  exact fin (ok X) 11 [.b false, .s (z2x v5) (z2y v5), .s (z0x v6) (z0y v6)] (pA k4 (pA (z9f (X := X) k6) (pA (z11 (X := X) k7) pT))) (by kernel_rfl)

theorem zhp {a0 : z00} {r : (z00 × z06)} (h : z72 a0 = some r) : Cs Tryz.prog (GX X) 85 [xP 0 0] [oB 67 (bs (z03 a0))] (zdh r) (zdi r) := by
 refine fnT (cx := cx X) Tryz.f85 Tryz.call85 Tryz.func85 (by kernel_rfl) ?_
 unfold z72 at h
 obtain ⟨v1, k1, h⟩ := z07 h
 obtain ⟨v2, k2, h⟩ := z07 h
 obtain rfl := retE h
 exact fin (ok X) 9 [.s (z9a v1) (z9b v1), .s (z0x v2) (z0y v2)] (pA (zbs (X := X) k1) (pA (z11 (X := X) k2) pT)) (by kernel_rfl)

theorem zik {a0 : z00} {r : (z00 × z06)} (h : z7i a0 = some r) : Cs Tryz.prog (GX X) 86 [xP 0 0] [oB 67 (bs (z03 a0))] (zdx r) (zdy r) := by
 refine fnT (cx := cx X) Tryz.f86 Tryz.call86 Tryz.func86 (by kernel_rfl) ?_
 unfold z7i at h
 obtain ⟨v1, k1, h⟩ := z07 h
 obtain ⟨v2, k2, h⟩ := z07 h
 obtain rfl := retE h
 exact fin (ok X) 9 [.s (z27 v1) (z28 v1), .s (z0x v2) (z0y v2)] (pA (z2e (X := X) k1) (pA (z11 (X := X) k2) pT)) (by kernel_rfl)

theorem zhq {a0 : z00} {r : (z00 × z06)} (h : z73 a0 = some r) : Cs Tryz.prog (GX X) 87 [xP 0 0] [oB 67 (bs (z03 a0))] (zdj r) (zdk r) := by
 refine fnT (cx := cx X) Tryz.f87 Tryz.call87 Tryz.func87 (by kernel_rfl) ?_
 unfold z73 at h
 obtain ⟨v1, k1, h⟩ := z07 h
 obtain ⟨v2, k2, h⟩ := z07 h
 obtain ⟨v3, k3, h⟩ := z07 h
 obtain ⟨v4, k4, h⟩ := z07 h
 obtain rfl := retE h
 exact fin (ok X) 13 [.s (z27 v1) (z28 v1), .s (z0x v2) (z0y v2), .s (z2x v3) (z2y v3), .s (z0x v4) (z0y v4)] (pA (z2e (X := X) k1) (pA (z11 (X := X) k2) (pA (z9f (X := X) k3) (pA (z11 (X := X) k4) pT)))) (by kernel_rfl)

theorem zil {n : Nat} (ih_parse_reader_stmts : ∀ (a0 : z00) (r : (z00 × (List z06))), z1c n a0 = some r → Cs Tryz.prog (GX X) 36 [xP 0 0] [oB 67 (bs (z03 a0))] (z3d r) (z3e r)) (ih_parse_reader_stmt : ∀ (a0 : z00) (r : (z00 × z06 × Bool)), z0z n a0 = some r → Cs Tryz.prog (GX X) 66 [xP 0 0] [oB 67 (bs (z03 a0))] (z4s r) (z4t r)) (ih_parse_reader_conditional : ∀ (a0 : z00) (r : (z00 × z06)), z17 n a0 = some r → Cs Tryz.prog (GX X) 81 [xP 0 0] [oB 67 (bs (z03 a0))] (z31 r) (z32 r)) (ih_parse_reader_loop : ∀ (a0 : z00) (r : (z00 × z06)), z29 n a0 = some r → Cs Tryz.prog (GX X) 82 [xP 0 0] [oB 67 (bs (z03 a0))] (z4u r) (z4v r)) (ih_parse_reader_recv : ∀ (a0 : z00) (r : (z00 × z06)), z24 n a0 = some r → Cs Tryz.prog (GX X) 84 [xP 0 0] [oB 67 (bs (z03 a0))] (z4h r) (z4i r)) (ih_parse_reader_block : ∀ (a0 : z00) (r : (z00 × (List z06))), z0t n a0 = some r → Cs Tryz.prog (GX X) 109 [xP 0 0] [oB 67 (bs (z03 a0))] (z3f r) (z3g r)) (ih_parse_reader_arm : ∀ (a0 : z00) (r : (z00 × z2n)), z1k n a0 = some r → Cs Tryz.prog (GX X) 111 [xP 0 0] [oB 67 (bs (z03 a0))] (z4q r) (z4r r)) (a0 : z00) (r : (z00 × (List z06))) (h : z1c (n + 1) a0 = some r) : Cs Tryz.prog (GX X) 36 [xP 0 0] [oB 67 (bs (z03 a0))] (z3d r) (z3e r) := by
 refine fnT (cx := cx X) Tryz.f36 Tryz.call36 Tryz.func36 (by kernel_rfl) ?_
 rw [z1c] at h
 refine adv (ok X) 4 [] pT (by kernel_rfl) ?_
 refine lp (ok X) (z8n (z1c n) (z0z n) (z17 n) (z29 n) (z24 n) (z0t n) (z1k n)) (fun (x1 : ((List z0n) × Int × Int × Int × Int × Int × (List z06))) => ⟨18, 1, [(0, [xP 0 0]), (3, [xR 1])], [oB 67 (bs (z03 (z00.mk x1.1 x1.2.1 x1.2.2.1 x1.2.2.2.1 x1.2.2.2.2.1 x1.2.2.2.2.2.1))), oR true 159 19 (List.map z22 x1.2.2.2.2.2.2)]⟩) (fun (j1 : Unit) => ⟨18, 1, [], [none]⟩) zii (a0.f_l, a0.f_end, a0.f_e, a0.f_at, a0.f_deep, a0.f_in, []) (fun _ => ⟨_, _, _, _, rfl⟩) h (by kernel_rfl) (fun x1 o h => ?_) (fun r' h => ?_) (fun j1 h => ?_)
 ·unfold z8n at h
  obtain ⟨v1, k1, h⟩ := z07 h
  refine adv (ok X) 6 [.s (z4s v1) (z4t v1)] (pA (ih_parse_reader_stmt _ _ k1) pT) (by kernel_rfl) ?_
  rcases iteE h with ⟨k2, h⟩ | ⟨k2, h⟩
  ·obtain rfl := retE h
   exact fin (ok X) 4 [.b true] (pA k2 pT) (by kernel_rfl)
  ·obtain ⟨v2, k3, h⟩ := z07 h
   obtain rfl := retE h
   exact fin (ok X) 4 [.b false, .bl (List.map z22 [v1.2.1]), .l (List.map z22 v2)] (pA k2 (pA (blc (e := z22) (x := v1.2.1) (ze6 _).symm (bl0 z22)) (pA (apm (L := x1.2.2.2.2.2.2) (M := [v1.2.1]) znu k3) pT))) (by kernel_rfl)
 ·obtain rfl := retE h
  kernel_rfl
 ·cases h

theorem zjk {n : Nat} (ih_parse_reader_stmts : ∀ (a0 : z00) (r : (z00 × (List z06))), z1c n a0 = some r → Cs Tryz.prog (GX X) 36 [xP 0 0] [oB 67 (bs (z03 a0))] (z3d r) (z3e r)) (ih_parse_reader_stmt : ∀ (a0 : z00) (r : (z00 × z06 × Bool)), z0z n a0 = some r → Cs Tryz.prog (GX X) 66 [xP 0 0] [oB 67 (bs (z03 a0))] (z4s r) (z4t r)) (ih_parse_reader_conditional : ∀ (a0 : z00) (r : (z00 × z06)), z17 n a0 = some r → Cs Tryz.prog (GX X) 81 [xP 0 0] [oB 67 (bs (z03 a0))] (z31 r) (z32 r)) (ih_parse_reader_loop : ∀ (a0 : z00) (r : (z00 × z06)), z29 n a0 = some r → Cs Tryz.prog (GX X) 82 [xP 0 0] [oB 67 (bs (z03 a0))] (z4u r) (z4v r)) (ih_parse_reader_recv : ∀ (a0 : z00) (r : (z00 × z06)), z24 n a0 = some r → Cs Tryz.prog (GX X) 84 [xP 0 0] [oB 67 (bs (z03 a0))] (z4h r) (z4i r)) (ih_parse_reader_block : ∀ (a0 : z00) (r : (z00 × (List z06))), z0t n a0 = some r → Cs Tryz.prog (GX X) 109 [xP 0 0] [oB 67 (bs (z03 a0))] (z3f r) (z3g r)) (ih_parse_reader_arm : ∀ (a0 : z00) (r : (z00 × z2n)), z1k n a0 = some r → Cs Tryz.prog (GX X) 111 [xP 0 0] [oB 67 (bs (z03 a0))] (z4q r) (z4r r)) (a0 : z00) (r : (z00 × z06 × Bool)) (h : z0z (n + 1) a0 = some r) : Cs Tryz.prog (GX X) 66 [xP 0 0] [oB 67 (bs (z03 a0))] (z4s r) (z4t r) := by
 refine fnT (cx := cx X) Tryz.f66 Tryz.call66 Tryz.func66 (by kernel_rfl) ?_
 rw [z0z] at h
 obtain ⟨v1, k1, h⟩ := z07 h
 refine adv (ok X) 6 [.s (z2v v1) (z2w v1)] (pA (z3b (X := X) k1) pT) (by kernel_rfl) ?_
 rcases iteE h with ⟨k2, h⟩ | ⟨k2, h⟩
 ·obtain ⟨v2, k3, h⟩ := z07 h
  obtain rfl := retE h
  exact fin (ok X) 4 [.b true, .s (z31 v2) (z32 v2)] (pA k2 (pA (ih_parse_reader_conditional _ _ k3) pT)) (by kernel_rfl)
 ·obtain ⟨v3, k4, h⟩ := z07 h
  refine adv (ok X) 3 [.b false, .s (z2v v3) (z2w v3)] (pA k2 (pA (z3b (X := X) k4) pT)) (by kernel_rfl) ?_
  rcases iteE h with ⟨k5, h⟩ | ⟨k5, h⟩
  ·obtain ⟨v4, k6, h⟩ := z07 h
   obtain rfl := retE h
   exact fin (ok X) 4 [.b true, .s (z4u v4) (z4v v4)] (pA k5 (pA (ih_parse_reader_loop _ _ k6) pT)) (by kernel_rfl)
  ·obtain ⟨v5, k7, h⟩ := z07 h
   refine adv (ok X) 3 [.b false, .s (z2v v5) (z2w v5)] (pA k5 (pA (z3b (X := X) k7) pT)) (by kernel_rfl) ?_
   rcases iteE h with ⟨k8, h⟩ | ⟨k8, h⟩
   ·obtain ⟨v6, k9, h⟩ := z07 h
    obtain rfl := retE h
    exact fin (ok X) 4 [.b true, .s (zeq v6) (zer v6)] (pA k8 (pA (zjj (X := X) k9) pT)) (by kernel_rfl)
   ·obtain ⟨v7, k10, h⟩ := z07 h
    refine adv (ok X) 3 [.b false, .s (z2v v7) (z2w v7)] (pA k8 (pA (z3b (X := X) k10) pT)) (by kernel_rfl) ?_
    rcases iteE h with ⟨k11, h⟩ | ⟨k11, h⟩
    ·obtain ⟨v8, k12, h⟩ := z07 h
     obtain rfl := retE h
     exact fin (ok X) 4 [.b true, .s (z4h v8) (z4i v8)] (pA k11 (pA (ih_parse_reader_recv _ _ k12) pT)) (by kernel_rfl)
    ·obtain ⟨v9, k13, h⟩ := z07 h
     refine adv (ok X) 3 [.b false, .s (z2v v9) (z2w v9)] (pA k11 (pA (z3b (X := X) k13) pT)) (by kernel_rfl) ?_
     rcases iteE h with ⟨k14, h⟩ | ⟨k14, h⟩
     ·obtain ⟨v10, k15, h⟩ := z07 h
      obtain rfl := retE h
      exact fin (ok X) 4 [.b true, .s (zdh v10) (zdi v10)] (pA k14 (pA (zhp (X := X) k15) pT)) (by kernel_rfl)
     ·obtain ⟨v11, k16, h⟩ := z07 h
      refine adv (ok X) 3 [.b false, .s (z2v v11) (z2w v11)] (pA k14 (pA (z3b (X := X) k16) pT)) (by kernel_rfl) ?_
      rcases iteE h with ⟨k17, h⟩ | ⟨k17, h⟩
      ·obtain ⟨v12, k18, h⟩ := z07 h
       obtain rfl := retE h
       exact fin (ok X) 4 [.b true, .s (zdx v12) (zdy v12)] (pA k17 (pA (zik (X := X) k18) pT)) (by kernel_rfl)
      ·obtain ⟨v13, k19, h⟩ := z07 h
       refine adv (ok X) 3 [.b false, .s (zak v13) (zal v11.1 v13)] (pA k17 (pA (zd4 (X := X) k19) pT)) (by kernel_rfl) ?_
       rcases iteE h with ⟨k20, h⟩ | ⟨k20, h⟩
       ·obtain ⟨v14, k21, h⟩ := z07 h
        obtain rfl := retE h
        exact fin (ok X) 4 [.b true, .s (zdj v14) (zdk v14)] (pA k20 (pA (zhq (X := X) k21) pT)) (by kernel_rfl)
       ·obtain rfl := retE h
        exact fin (ok X) 6 [.b false] (pA k20 pT) (by kernel_rfl)

theorem zfd {n : Nat} (ih_parse_reader_stmts : ∀ (a0 : z00) (r : (z00 × (List z06))), z1c n a0 = some r → Cs Tryz.prog (GX X) 36 [xP 0 0] [oB 67 (bs (z03 a0))] (z3d r) (z3e r)) (ih_parse_reader_stmt : ∀ (a0 : z00) (r : (z00 × z06 × Bool)), z0z n a0 = some r → Cs Tryz.prog (GX X) 66 [xP 0 0] [oB 67 (bs (z03 a0))] (z4s r) (z4t r)) (ih_parse_reader_conditional : ∀ (a0 : z00) (r : (z00 × z06)), z17 n a0 = some r → Cs Tryz.prog (GX X) 81 [xP 0 0] [oB 67 (bs (z03 a0))] (z31 r) (z32 r)) (ih_parse_reader_loop : ∀ (a0 : z00) (r : (z00 × z06)), z29 n a0 = some r → Cs Tryz.prog (GX X) 82 [xP 0 0] [oB 67 (bs (z03 a0))] (z4u r) (z4v r)) (ih_parse_reader_recv : ∀ (a0 : z00) (r : (z00 × z06)), z24 n a0 = some r → Cs Tryz.prog (GX X) 84 [xP 0 0] [oB 67 (bs (z03 a0))] (z4h r) (z4i r)) (ih_parse_reader_block : ∀ (a0 : z00) (r : (z00 × (List z06))), z0t n a0 = some r → Cs Tryz.prog (GX X) 109 [xP 0 0] [oB 67 (bs (z03 a0))] (z3f r) (z3g r)) (ih_parse_reader_arm : ∀ (a0 : z00) (r : (z00 × z2n)), z1k n a0 = some r → Cs Tryz.prog (GX X) 111 [xP 0 0] [oB 67 (bs (z03 a0))] (z4q r) (z4r r)) (a0 : z00) (r : (z00 × z06)) (h : z17 (n + 1) a0 = some r) : Cs Tryz.prog (GX X) 81 [xP 0 0] [oB 67 (bs (z03 a0))] (z31 r) (z32 r) := by
 refine fnT (cx := cx X) Tryz.f81 Tryz.call81 Tryz.func81 (by kernel_rfl) ?_
 rw [z17] at h
 obtain ⟨v1, k1, h⟩ := z07 h
 obtain ⟨v2, k2, h⟩ := z07 h
 obtain ⟨v3, k3, h⟩ := z07 h
 refine adv (ok X) 9 [.s (z9a v1) (z9b v1), .s (z3f v2) (z3g v2), .s (z2v v3) (z2w v3)] (pA (zbs (X := X) k1) (pA (ih_parse_reader_block _ _ k2) (pA (z3b (X := X) k3) pT))) (by kernel_rfl) ?_
 rcases iteE h with ⟨k4, h⟩ | ⟨k4, h⟩
 ·obtain ⟨v4, k5, h⟩ := z07 h
  obtain rfl := retE h
  exact fin (ok X) 5 [.b true, .s (z3f v4) (z3g v4)] (pA k4 (pA (ih_parse_reader_block _ _ k5) pT)) (by kernel_rfl)
 ·obtain rfl := retE h
  exact fin (ok X) 5 [.b false] (pA k4 pT) (by kernel_rfl)

theorem zjl {n : Nat} (ih_parse_reader_stmts : ∀ (a0 : z00) (r : (z00 × (List z06))), z1c n a0 = some r → Cs Tryz.prog (GX X) 36 [xP 0 0] [oB 67 (bs (z03 a0))] (z3d r) (z3e r)) (ih_parse_reader_stmt : ∀ (a0 : z00) (r : (z00 × z06 × Bool)), z0z n a0 = some r → Cs Tryz.prog (GX X) 66 [xP 0 0] [oB 67 (bs (z03 a0))] (z4s r) (z4t r)) (ih_parse_reader_conditional : ∀ (a0 : z00) (r : (z00 × z06)), z17 n a0 = some r → Cs Tryz.prog (GX X) 81 [xP 0 0] [oB 67 (bs (z03 a0))] (z31 r) (z32 r)) (ih_parse_reader_loop : ∀ (a0 : z00) (r : (z00 × z06)), z29 n a0 = some r → Cs Tryz.prog (GX X) 82 [xP 0 0] [oB 67 (bs (z03 a0))] (z4u r) (z4v r)) (ih_parse_reader_recv : ∀ (a0 : z00) (r : (z00 × z06)), z24 n a0 = some r → Cs Tryz.prog (GX X) 84 [xP 0 0] [oB 67 (bs (z03 a0))] (z4h r) (z4i r)) (ih_parse_reader_block : ∀ (a0 : z00) (r : (z00 × (List z06))), z0t n a0 = some r → Cs Tryz.prog (GX X) 109 [xP 0 0] [oB 67 (bs (z03 a0))] (z3f r) (z3g r)) (ih_parse_reader_arm : ∀ (a0 : z00) (r : (z00 × z2n)), z1k n a0 = some r → Cs Tryz.prog (GX X) 111 [xP 0 0] [oB 67 (bs (z03 a0))] (z4q r) (z4r r)) (a0 : z00) (r : (z00 × z06)) (h : z29 (n + 1) a0 = some r) : Cs Tryz.prog (GX X) 82 [xP 0 0] [oB 67 (bs (z03 a0))] (z4u r) (z4v r) := by
 refine fnT (cx := cx X) Tryz.f82 Tryz.call82 Tryz.func82 (by kernel_rfl) ?_
 rw [z29] at h
 obtain ⟨v1, k1, h⟩ := z07 h
 obtain ⟨v2, k2, h⟩ := z07 h
 obtain rfl := retE h
 exact fin (ok X) 9 [.s (z9a v1) (z9b v1), .s (z3f v2) (z3g v2)] (pA (zbs (X := X) k1) (pA (ih_parse_reader_block _ _ k2) pT)) (by kernel_rfl)

theorem zjm {n : Nat} (ih_parse_reader_stmts : ∀ (a0 : z00) (r : (z00 × (List z06))), z1c n a0 = some r → Cs Tryz.prog (GX X) 36 [xP 0 0] [oB 67 (bs (z03 a0))] (z3d r) (z3e r)) (ih_parse_reader_stmt : ∀ (a0 : z00) (r : (z00 × z06 × Bool)), z0z n a0 = some r → Cs Tryz.prog (GX X) 66 [xP 0 0] [oB 67 (bs (z03 a0))] (z4s r) (z4t r)) (ih_parse_reader_conditional : ∀ (a0 : z00) (r : (z00 × z06)), z17 n a0 = some r → Cs Tryz.prog (GX X) 81 [xP 0 0] [oB 67 (bs (z03 a0))] (z31 r) (z32 r)) (ih_parse_reader_loop : ∀ (a0 : z00) (r : (z00 × z06)), z29 n a0 = some r → Cs Tryz.prog (GX X) 82 [xP 0 0] [oB 67 (bs (z03 a0))] (z4u r) (z4v r)) (ih_parse_reader_recv : ∀ (a0 : z00) (r : (z00 × z06)), z24 n a0 = some r → Cs Tryz.prog (GX X) 84 [xP 0 0] [oB 67 (bs (z03 a0))] (z4h r) (z4i r)) (ih_parse_reader_block : ∀ (a0 : z00) (r : (z00 × (List z06))), z0t n a0 = some r → Cs Tryz.prog (GX X) 109 [xP 0 0] [oB 67 (bs (z03 a0))] (z3f r) (z3g r)) (ih_parse_reader_arm : ∀ (a0 : z00) (r : (z00 × z2n)), z1k n a0 = some r → Cs Tryz.prog (GX X) 111 [xP 0 0] [oB 67 (bs (z03 a0))] (z4q r) (z4r r)) (a0 : z00) (r : (z00 × z06)) (h : z24 (n + 1) a0 = some r) : Cs Tryz.prog (GX X) 84 [xP 0 0] [oB 67 (bs (z03 a0))] (z4h r) (z4i r) := by
 refine fnT (cx := cx X) Tryz.f84 Tryz.call84 Tryz.func84 (by kernel_rfl) ?_
 rw [z24] at h
 obtain ⟨v1, k1, h⟩ := z07 h
 obtain ⟨v2, k2, h⟩ := z07 h
 obtain ⟨v3, k3, h⟩ := z07 h
 obtain ⟨v4, k4, h⟩ := z07 h
 refine adv (ok X) 9 [.s (z27 v1) (z28 v1), .s (z0x v2) (z0y v2), .o [0, 1, 2, 3, 4, 5, 6, 7], .s (z4q v3) (z4r v3), .bl (List.map z4p [v3.2]), .l (List.map z4p v4)] (pA (z2e (X := X) k1) (pA (z11 (X := X) k2) (pA (ih_parse_reader_arm _ _ k3) (pA (blc (e := z4p) (x := v3.2) (zdd _).symm (bl0 z4p)) (pA (apm (L := []) (M := [v3.2]) zk7 k4) pT))))) (by kernel_rfl) ?_
 refine lp (ok X) (z6w (z1c n) (z0z n) (z17 n) (z29 n) (z24 n) (z0t n) (z1k n)) (fun (x1 : ((List z0n) × Int × Int × Int × Int × Int × (List z2n))) => ⟨36, 1, [(0, [xP 0 0]), (2, [xP 1 0]), (3, [xP 2 0])], [oB 67 (bs (z03 (z00.mk x1.1 x1.2.1 x1.2.2.1 x1.2.2.2.1 x1.2.2.2.2.1 x1.2.2.2.2.2.1))), oB 159 [.pv (.int .i64 0), .pv (.str (ByteArray.mk #[])), .pv (.str (ByteArray.mk #[])), .pv (.int .i64 0), .pv (.int .i64 0), .pv (.str (ByteArray.mk #[])), .emp, .pv (.int .i64 0), .pv (.int .i64 0), .pv (.int .i64 0), .pv (.str (ByteArray.mk #[])), .emp, .pv (.int .i64 0), .pv (.int .i64 0), .pv (.str (ByteArray.mk #[])), .emp, .emp, .emp, .emp], oB 159 [.pv (.int .i64 5), .pv (.str v1.2), .pv (.str (ByteArray.mk #[])), .pv (.int .i64 0), .pv (.int .i64 0), .pv (.str (ByteArray.mk #[])), .emp, .pv (.int .i64 0), .pv (.int .i64 0), .pv (.int .i64 0), .pv (.str (ByteArray.mk #[])), .emp, .pv (.int .i64 0), .pv (.int .i64 0), .pv (.str (ByteArray.mk #[])), .emp, .emp, .emp, .row 3], oR true 200 3 (List.map z4p x1.2.2.2.2.2.2)]⟩) (fun (j1 : ((List z0n) × Int × Int × Int × Int × Int × (List z2n))) => ⟨36, 1, [(0, [xP 0 0]), (2, [xP 1 0]), (3, [xP 2 0])], [oB 67 (bs (z03 (z00.mk j1.1 j1.2.1 j1.2.2.1 j1.2.2.2.1 j1.2.2.2.2.1 j1.2.2.2.2.2.1))), oB 159 [.pv (.int .i64 0), .pv (.str (ByteArray.mk #[])), .pv (.str (ByteArray.mk #[])), .pv (.int .i64 0), .pv (.int .i64 0), .pv (.str (ByteArray.mk #[])), .emp, .pv (.int .i64 0), .pv (.int .i64 0), .pv (.int .i64 0), .pv (.str (ByteArray.mk #[])), .emp, .pv (.int .i64 0), .pv (.int .i64 0), .pv (.str (ByteArray.mk #[])), .emp, .emp, .emp, .emp], oB 159 [.pv (.int .i64 5), .pv (.str v1.2), .pv (.str (ByteArray.mk #[])), .pv (.int .i64 0), .pv (.int .i64 0), .pv (.str (ByteArray.mk #[])), .emp, .pv (.int .i64 0), .pv (.int .i64 0), .pv (.int .i64 0), .pv (.str (ByteArray.mk #[])), .emp, .pv (.int .i64 0), .pv (.int .i64 0), .pv (.str (ByteArray.mk #[])), .emp, .emp, .emp, .row 3], oR true 200 3 (List.map z4p j1.2.2.2.2.2.2)]⟩) zj9 (v3.1.f_l, v3.1.f_end, v3.1.f_e, v3.1.f_at, v3.1.f_deep, v3.1.f_in, v4) (fun _ => ⟨_, _, _, _, rfl⟩) h (by kernel_rfl) (fun x1 o h => ?_) (fun r' h => ?_) (fun j1 h => ?_)
 ·unfold z6w at h
  refine adv (ok X) 2 [] pT (by kernel_rfl) ?_
  refine jn (ok X) 1 (fun (j2 : Bool) => ⟨36, 1, [(0, [xP 0 0]), (2, [xP 1 0]), (3, [xP 2 0]), (25, [xB j2])], [oB 67 (bs (z03 (z00.mk x1.1 x1.2.1 x1.2.2.1 x1.2.2.2.1 x1.2.2.2.2.1 x1.2.2.2.2.2.1))), oB 159 [.pv (.int .i64 0), .pv (.str (ByteArray.mk #[])), .pv (.str (ByteArray.mk #[])), .pv (.int .i64 0), .pv (.int .i64 0), .pv (.str (ByteArray.mk #[])), .emp, .pv (.int .i64 0), .pv (.int .i64 0), .pv (.int .i64 0), .pv (.str (ByteArray.mk #[])), .emp, .pv (.int .i64 0), .pv (.int .i64 0), .pv (.str (ByteArray.mk #[])), .emp, .emp, .emp, .emp], oB 159 [.pv (.int .i64 5), .pv (.str v1.2), .pv (.str (ByteArray.mk #[])), .pv (.int .i64 0), .pv (.int .i64 0), .pv (.str (ByteArray.mk #[])), .emp, .pv (.int .i64 0), .pv (.int .i64 0), .pv (.int .i64 0), .pv (.str (ByteArray.mk #[])), .emp, .pv (.int .i64 0), .pv (.int .i64 0), .pv (.str (ByteArray.mk #[])), .emp, .emp, .emp, .row 3], oR true 200 3 (List.map z4p x1.2.2.2.2.2.2)]⟩) h (fun j2 h => ?_) (fun j2 h => ?_)
  ·rcases iteE h with ⟨k5, h⟩ | ⟨k5, h⟩
   ·obtain ⟨v5, k6, h⟩ := z07 h
    obtain rfl := retE h
    exact fin (ok X) 1 [.b true, .b true, .s (z5l v5) (z5m (z00.mk x1.1 x1.2.1 x1.2.2.1 x1.2.2.2.1 x1.2.2.2.2.1 x1.2.2.2.2.2.1) v5), .b true, .b true] (pA k5 (pA k5 (pA (z6b (X := X) k6) (pA k5 (pA k5 pT))))) (by kernel_rfl)
   ·obtain rfl := retE h
    exact fin (ok X) 1 (bF 4 []) (pR 4 k5 pT) (by kernel_rfl)
  ·rcases iteE h with ⟨k7, h⟩ | ⟨k7, h⟩
   ·obtain ⟨v6, k8, h⟩ := z07 h
    obtain ⟨v7, k9, h⟩ := z07 h
    obtain rfl := retE h
    exact fin (ok X) 5 [.b true, .o [0, 1, 2, 3, 4, 5, 6, 7], .s (z4q v6) (z4r v6), .bl (List.map z4p [v6.2]), .l (List.map z4p v7)] (pA k7 (pA (ih_parse_reader_arm _ _ k8) (pA (blc (e := z4p) (x := v6.2) (zdd _).symm (bl0 z4p)) (pA (apm (L := x1.2.2.2.2.2.2) (M := [v6.2]) zk7 k9) pT)))) (by kernel_rfl)
   ·obtain rfl := retE h
    exact fin (ok X) 2 [.b false] (pA k7 pT) (by kernel_rfl)
 ·cases h
 ·obtain ⟨v8, k10, h⟩ := z07 h
  obtain rfl := retE h
  exact fin (ok X) 5 [.s (z0x v8) (z0y v8)] (pA (z11 (X := X) k10) pT) (by kernel_rfl)

theorem zim {n : Nat} (ih_parse_reader_stmts : ∀ (a0 : z00) (r : (z00 × (List z06))), z1c n a0 = some r → Cs Tryz.prog (GX X) 36 [xP 0 0] [oB 67 (bs (z03 a0))] (z3d r) (z3e r)) (ih_parse_reader_stmt : ∀ (a0 : z00) (r : (z00 × z06 × Bool)), z0z n a0 = some r → Cs Tryz.prog (GX X) 66 [xP 0 0] [oB 67 (bs (z03 a0))] (z4s r) (z4t r)) (ih_parse_reader_conditional : ∀ (a0 : z00) (r : (z00 × z06)), z17 n a0 = some r → Cs Tryz.prog (GX X) 81 [xP 0 0] [oB 67 (bs (z03 a0))] (z31 r) (z32 r)) (ih_parse_reader_loop : ∀ (a0 : z00) (r : (z00 × z06)), z29 n a0 = some r → Cs Tryz.prog (GX X) 82 [xP 0 0] [oB 67 (bs (z03 a0))] (z4u r) (z4v r)) (ih_parse_reader_recv : ∀ (a0 : z00) (r : (z00 × z06)), z24 n a0 = some r → Cs Tryz.prog (GX X) 84 [xP 0 0] [oB 67 (bs (z03 a0))] (z4h r) (z4i r)) (ih_parse_reader_block : ∀ (a0 : z00) (r : (z00 × (List z06))), z0t n a0 = some r → Cs Tryz.prog (GX X) 109 [xP 0 0] [oB 67 (bs (z03 a0))] (z3f r) (z3g r)) (ih_parse_reader_arm : ∀ (a0 : z00) (r : (z00 × z2n)), z1k n a0 = some r → Cs Tryz.prog (GX X) 111 [xP 0 0] [oB 67 (bs (z03 a0))] (z4q r) (z4r r)) (a0 : z00) (r : (z00 × (List z06))) (h : z0t (n + 1) a0 = some r) : Cs Tryz.prog (GX X) 109 [xP 0 0] [oB 67 (bs (z03 a0))] (z3f r) (z3g r) := by
 refine fnT (cx := cx X) Tryz.f109 Tryz.call109 Tryz.func109 (by kernel_rfl) ?_
 rw [z0t] at h
 refine adv (ok X) 4 [] pT (by kernel_rfl) ?_
 refine jn (ok X) 1 (fun (j1 : Bool) => ⟨36, 1, [(0, [xP 0 0]), (12, [xB j1])], [oB 67 (bs (z03 a0))]⟩) h (fun j1 h => ?_) (fun j1 h => ?_)
 ·obtain ⟨v1, k1, h⟩ := z07 h
  rcases iteE h with ⟨k2, h⟩ | ⟨k2, h⟩
  ·obtain rfl := retE h
   exact fin (ok X) 1 (.s (z5l v1) (z5m a0 v1) :: bT 6 []) (pA (z6b (X := X) k1) (pR 6 k2 pT)) (by kernel_rfl)
  ·obtain rfl := retE h
   exact fin (ok X) 1 (.s (z5l v1) (z5m a0 v1) :: bF 6 []) (pA (z6b (X := X) k1) (pR 6 k2 pT)) (by kernel_rfl)
 ·rcases iteE h with ⟨k3, h⟩ | ⟨k3, h⟩
  ·obtain ⟨v2, k4, h⟩ := z07 h
   obtain rfl := retE h
   exact fin (ok X) 6 [.b true, .s (z5n v2) (z5o v2)] (pA k3 (pA (z6c (X := X) k4) pT)) (by kernel_rfl)
  ·obtain ⟨v3, k5, h⟩ := z07 h
   obtain ⟨v4, k6, h⟩ := z07 h
   obtain ⟨v5, k7, h⟩ := z07 h
   obtain rfl := retE h
   exact fin (ok X) 15 [.b false, .s (z0x v3) (z0y v3), .s (z3d v4) (z3e v4), .s (z0x v5) (z0y v5)] (pA k3 (pA (z11 (X := X) k5) (pA (ih_parse_reader_stmts _ _ k6) (pA (z11 (X := X) k7) pT)))) (by kernel_rfl)

theorem zkm {n : Nat} (ih_parse_reader_stmts : ∀ (a0 : z00) (r : (z00 × (List z06))), z1c n a0 = some r → Cs Tryz.prog (GX X) 36 [xP 0 0] [oB 67 (bs (z03 a0))] (z3d r) (z3e r)) (ih_parse_reader_stmt : ∀ (a0 : z00) (r : (z00 × z06 × Bool)), z0z n a0 = some r → Cs Tryz.prog (GX X) 66 [xP 0 0] [oB 67 (bs (z03 a0))] (z4s r) (z4t r)) (ih_parse_reader_conditional : ∀ (a0 : z00) (r : (z00 × z06)), z17 n a0 = some r → Cs Tryz.prog (GX X) 81 [xP 0 0] [oB 67 (bs (z03 a0))] (z31 r) (z32 r)) (ih_parse_reader_loop : ∀ (a0 : z00) (r : (z00 × z06)), z29 n a0 = some r → Cs Tryz.prog (GX X) 82 [xP 0 0] [oB 67 (bs (z03 a0))] (z4u r) (z4v r)) (ih_parse_reader_recv : ∀ (a0 : z00) (r : (z00 × z06)), z24 n a0 = some r → Cs Tryz.prog (GX X) 84 [xP 0 0] [oB 67 (bs (z03 a0))] (z4h r) (z4i r)) (ih_parse_reader_block : ∀ (a0 : z00) (r : (z00 × (List z06))), z0t n a0 = some r → Cs Tryz.prog (GX X) 109 [xP 0 0] [oB 67 (bs (z03 a0))] (z3f r) (z3g r)) (ih_parse_reader_arm : ∀ (a0 : z00) (r : (z00 × z2n)), z1k n a0 = some r → Cs Tryz.prog (GX X) 111 [xP 0 0] [oB 67 (bs (z03 a0))] (z4q r) (z4r r)) (a0 : z00) (r : (z00 × z2n)) (h : z1k (n + 1) a0 = some r) : Cs Tryz.prog (GX X) 111 [xP 0 0] [oB 67 (bs (z03 a0))] (z4q r) (z4r r) := by
 refine fnT (cx := cx X) Tryz.f111 Tryz.call111 Tryz.func111 (by kernel_rfl) ?_
 rw [z1k] at h
 obtain ⟨v1, k1, h⟩ := z07 h
 obtain ⟨v2, k2, h⟩ := z07 h
 obtain ⟨v3, k3, h⟩ := z07 h
 obtain ⟨v4, k4, h⟩ := z07 h
 obtain ⟨v5, k5, h⟩ := z07 h
 obtain rfl := retE h
 exact fin (ok X) 15 [.s (z27 v1) (z28 v1), .s (z0x v2) (z0y v2), .s (z27 v3) (z28 v3), .s (z0x v4) (z0y v4), .s (z3f v5) (z3g v5)] (pA (z2e (X := X) k1) (pA (z11 (X := X) k2) (pA (z2e (X := X) k3) (pA (z11 (X := X) k4) (pA (ih_parse_reader_block _ _ k5) pT))))) (by kernel_rfl)

theorem zcm : ∀ n : Nat, (∀ (a0 : z00) (r : (z00 × (List z06))), z1c n a0 = some r → Cs Tryz.prog (GX X) 36 [xP 0 0] [oB 67 (bs (z03 a0))] (z3d r) (z3e r)) ∧ (∀ (a0 : z00) (r : (z00 × z06 × Bool)), z0z n a0 = some r → Cs Tryz.prog (GX X) 66 [xP 0 0] [oB 67 (bs (z03 a0))] (z4s r) (z4t r)) ∧ (∀ (a0 : z00) (r : (z00 × z06)), z17 n a0 = some r → Cs Tryz.prog (GX X) 81 [xP 0 0] [oB 67 (bs (z03 a0))] (z31 r) (z32 r)) ∧ (∀ (a0 : z00) (r : (z00 × z06)), z29 n a0 = some r → Cs Tryz.prog (GX X) 82 [xP 0 0] [oB 67 (bs (z03 a0))] (z4u r) (z4v r)) ∧ (∀ (a0 : z00) (r : (z00 × z06)), z24 n a0 = some r → Cs Tryz.prog (GX X) 84 [xP 0 0] [oB 67 (bs (z03 a0))] (z4h r) (z4i r)) ∧ (∀ (a0 : z00) (r : (z00 × (List z06))), z0t n a0 = some r → Cs Tryz.prog (GX X) 109 [xP 0 0] [oB 67 (bs (z03 a0))] (z3f r) (z3g r)) ∧ (∀ (a0 : z00) (r : (z00 × z2n)), z1k n a0 = some r → Cs Tryz.prog (GX X) 111 [xP 0 0] [oB 67 (bs (z03 a0))] (z4q r) (z4r r))
 | 0 => ⟨(fun _ _ h => by rw [z1c] at h; cases h), (fun _ _ h => by rw [z0z] at h; cases h), (fun _ _ h => by rw [z17] at h; cases h), (fun _ _ h => by rw [z29] at h; cases h), (fun _ _ h => by rw [z24] at h; cases h), (fun _ _ h => by rw [z0t] at h; cases h), (fun _ _ h => by rw [z1k] at h; cases h)⟩
 | n + 1 => by
  have ih := zcm n
  exact ⟨zil ih.1 ih.2.1 ih.2.2.1 ih.2.2.2.1 ih.2.2.2.2.1 ih.2.2.2.2.2.1 ih.2.2.2.2.2.2, zjk ih.1 ih.2.1 ih.2.2.1 ih.2.2.2.1 ih.2.2.2.2.1 ih.2.2.2.2.2.1 ih.2.2.2.2.2.2, zfd ih.1 ih.2.1 ih.2.2.1 ih.2.2.2.1 ih.2.2.2.2.1 ih.2.2.2.2.2.1 ih.2.2.2.2.2.2, zjl ih.1 ih.2.1 ih.2.2.1 ih.2.2.2.1 ih.2.2.2.2.1 ih.2.2.2.2.2.1 ih.2.2.2.2.2.2, zjm ih.1 ih.2.1 ih.2.2.1 ih.2.2.2.1 ih.2.2.2.2.1 ih.2.2.2.2.2.1 ih.2.2.2.2.2.2, zim ih.1 ih.2.1 ih.2.2.1 ih.2.2.2.1 ih.2.2.2.2.1 ih.2.2.2.2.2.1 ih.2.2.2.2.2.2, zkm ih.1 ih.2.1 ih.2.2.1 ih.2.2.2.1 ih.2.2.2.2.1 ih.2.2.2.2.2.1 ih.2.2.2.2.2.2⟩

theorem zin {a0 : z00} {r : (z00 × (List z06))} (h : z7j a0 = some r) : Cs Tryz.prog (GX X) 36 [xP 0 0] [oB 67 (bs (z03 a0))] (z3d r) (z3e r) := by
 obtain ⟨n, hn⟩ := unfE h
 exact (zcm n).1 _ _ hn

theorem zjn {a0 : z00} {r : (z00 × z59)} (h : z7z a0 = some r) : Cs Tryz.prog (GX X) 19 [xP 0 0] [oB 67 (bs (z03 a0))] (zbh r) (zbi r) := by
 refine fnT (cx := cx X) Tryz.f19 Tryz.call19 Tryz.func19 (by kernel_rfl) ?_
 unfold z7z at h
 obtain ⟨v1, k1, h⟩ := z07 h
 obtain ⟨v2, k2, h⟩ := z07 h
 refine adv (ok X) 7 [.s (z27 v1) (z28 v1), .s (z0x v2) (z0y v2)] (pA (z2e (X := X) k1) (pA (z11 (X := X) k2) pT)) (by kernel_rfl) ?_
 refine lp (ok X) (z42) (fun (x1 : ((List z0n) × Int × Int × Int × Int × Int × (List ByteArray))) => ⟨26, 1, [(0, [xP 0 0]), (2, [xP 1 0]), (3, [xP 2 0])], [oB 67 (bs (z03 (z00.mk x1.1 x1.2.1 x1.2.2.1 x1.2.2.2.1 x1.2.2.2.2.1 x1.2.2.2.2.2.1))), oB 79 [.pv (.str (ByteArray.mk #[])), .emp, .emp], oB 79 [.pv (.str v1.2), .row 3, .emp], oR true 9 1 (List.map z0a x1.2.2.2.2.2.2)]⟩) (fun (j1 : ((List z0n) × Int × Int × Int × Int × Int × (List ByteArray))) => ⟨26, 1, [(0, [xP 0 0]), (2, [xP 1 0]), (3, [xP 2 0])], [oB 67 (bs (z03 (z00.mk j1.1 j1.2.1 j1.2.2.1 j1.2.2.2.1 j1.2.2.2.2.1 j1.2.2.2.2.2.1))), oB 79 [.pv (.str (ByteArray.mk #[])), .emp, .emp], oB 79 [.pv (.str v1.2), .row 3, .emp], oR true 9 1 (List.map z0a j1.2.2.2.2.2.2)]⟩) zja (v2.f_l, v2.f_end, v2.f_e, v2.f_at, v2.f_deep, v2.f_in, []) (fun _ => ⟨_, _, _, _, rfl⟩) h (by kernel_rfl) (fun x1 o h => ?_) (fun r' h => ?_) (fun j1 h => ?_)
 ·unfold z42 at h
  obtain ⟨v3, k3, h⟩ := z07 h
  refine adv (ok X) 3 [.s (z2v v3) (z2w v3)] (pA (z3b (X := X) k3) pT) (by kernel_rfl) ?_
  rcases iteE h with ⟨k4, h⟩ | ⟨k4, h⟩
  ·obtain ⟨v4, k5, h⟩ := z07 h
   obtain ⟨v5, k6, h⟩ := z07 h
   obtain ⟨v6, k7, h⟩ := z07 h
   obtain rfl := retE h
   exact fin (ok X) 7 [.b true, .o [0, 1, 2, 3, 4, 5, 6, 7], .s (z27 v4) (z28 v4), .l (List.map z0a v5), .s (z0x v6) (z0y v6)] (pA k4 (pA (z2e (X := X) k5) (pA (apm (L := x1.2.2.2.2.2.2) (M := [v4.2]) zf2 k6) (pA (z11 (X := X) k7) pT)))) (by kernel_rfl)
  ·obtain rfl := retE h
   exact fin (ok X) 2 [.b false] (pA k4 pT) (by kernel_rfl)
 ·cases h
 ·obtain ⟨v7, k8, h⟩ := z07 h
  obtain ⟨v8, k9, h⟩ := z07 h
  obtain rfl := retE h
  exact fin (ok X) 7 [.s (z3d v7) (z3e v7), .s (z0x v8) (z0y v8)] (pA (zin (X := X) k8) (pA (z11 (X := X) k9) pT)) (by kernel_rfl)

theorem zp5 {a0 : ByteArray} {r : (z2l × Int × Int)} (h : za2 a0 = some r) : Cv Tryz.prog (GX X) 8 [xS a0] (ze8 r) := by
 refine Cs.toV (?_ : Cs Tryz.prog (GX X) 8 [xS a0] [] (ze8 r) (zka r)) (by kernel_rfl)
 refine fnT (cx := cx X) Tryz.f8 Tryz.call8 Tryz.func8 (by kernel_rfl) ?_
 unfold za2 at h
 obtain ⟨v1, k1, h⟩ := z07 h
 refine adv (ok X) 7 [.c (zhf v1)] (pA (zqt (X := X) k1) pT) (by kernel_rfl) ?_
 rcases iteE h with ⟨k2, h⟩ | ⟨k2, h⟩
 ·obtain rfl := retE h
  exact fin (ok X) 4 [.b true] (pA k2 pT) (by kernel_rfl)
 ·refine adv (ok X) 7 [.b false] (pA k2 pT) (by kernel_rfl) ?_
  refine lp (ok X) (z7b) (fun (x1 : ((List z0n) × Int × Int × Int × Int × Int × (List z4o))) => ⟨76, 0, [(2, [xP 0 0]), (8, [xP 1 0]), (9, [xP 2 0])], [oB 38 [.emp, .emp, .emp], oB 67 (bs (z03 (z00.mk x1.1 x1.2.1 x1.2.2.1 x1.2.2.2.1 x1.2.2.2.2.1 x1.2.2.2.2.2.1))), oB 38 [.row 3, .emp, .emp], oR true 71 6 (List.map z0e x1.2.2.2.2.2.2)]⟩) (fun (j1 : ((List z0n) × Int × Int × Int × Int × Int × (List z4o))) => ⟨76, 0, [(2, [xP 0 0]), (8, [xP 1 0]), (9, [xP 2 0])], [oB 38 [.emp, .emp, .emp], oB 67 (bs (z03 (z00.mk j1.1 j1.2.1 j1.2.2.1 j1.2.2.2.1 j1.2.2.2.2.1 j1.2.2.2.2.2.1))), oB 38 [.row 3, .emp, .emp], oR true 71 6 (List.map z0e j1.2.2.2.2.2.2)]⟩) zgk (v1.1, (a0.size : Int), 0, 0, 0, 0, []) (fun _ => ⟨_, _, _, _, rfl⟩) h (by kernel_rfl) (fun x1 o h => ?_) (fun r' h => ?_) (fun j1 h => ?_)
  ·unfold z7b at h
   obtain ⟨v2, k3, h⟩ := z07 h
   refine adv (ok X) 3 [.s (z2v v2) (z2w v2)] (pA (z3b (X := X) k3) pT) (by kernel_rfl) ?_
   rcases iteE h with ⟨k4, h⟩ | ⟨k4, h⟩
   ·obtain ⟨v3, k5, h⟩ := z07 h
    obtain ⟨v4, k6, h⟩ := z07 h
    obtain rfl := retE h
    exact fin (ok X) 5 [.b true, .o [0, 1, 2, 3, 4, 5, 6, 7], .s (z9t v3) (z9u v3), .l (List.map z0e v4)] (pA k4 (pA (zh3 (X := X) k5) (pA (apm (L := x1.2.2.2.2.2.2) (M := [v3.2]) znz k6) pT))) (by kernel_rfl)
   ·obtain rfl := retE h
    exact fin (ok X) 2 [.b false] (pA k4 pT) (by kernel_rfl)
  ·cases h
  ·refine adv (ok X) 1 [] pT (by kernel_rfl) ?_
   refine lp (ok X) (z7c) (fun (x2 : ((List z0n) × Int × Int × Int × Int × Int × (List z5i))) => ⟨76, 0, [(2, [xP 0 0]), (8, [xP 1 0]), (9, [xP 2 0])], [oB 38 [.emp, .emp, .emp], oB 67 (bs (z03 (z00.mk x2.1 x2.2.1 x2.2.2.1 x2.2.2.2.1 x2.2.2.2.2.1 x2.2.2.2.2.2.1))), oB 38 [.row 3, .row 4, .emp], oR true 71 6 (List.map z0e j1.2.2.2.2.2.2), oR true 75 2 (List.map z0i x2.2.2.2.2.2.2)]⟩) (fun (j2 : ((List z0n) × Int × Int × Int × Int × Int × (List z5i))) => ⟨76, 0, [(2, [xP 0 0]), (8, [xP 1 0]), (9, [xP 2 0])], [oB 38 [.emp, .emp, .emp], oB 67 (bs (z03 (z00.mk j2.1 j2.2.1 j2.2.2.1 j2.2.2.2.1 j2.2.2.2.2.1 j2.2.2.2.2.2.1))), oB 38 [.row 3, .row 4, .emp], oR true 71 6 (List.map z0e j1.2.2.2.2.2.2), oR true 75 2 (List.map z0i j2.2.2.2.2.2.2)]⟩) zgk (j1.1, j1.2.1, j1.2.2.1, j1.2.2.2.1, j1.2.2.2.2.1, j1.2.2.2.2.2.1, []) (fun _ => ⟨_, _, _, _, rfl⟩) h (by kernel_rfl) (fun x2 o h => ?_) (fun r' h => ?_) (fun j2 h => ?_)
   ·unfold z7c at h
    obtain ⟨v5, k7, h⟩ := z07 h
    refine adv (ok X) 3 [.s (z2v v5) (z2w v5)] (pA (z3b (X := X) k7) pT) (by kernel_rfl) ?_
    rcases iteE h with ⟨k8, h⟩ | ⟨k8, h⟩
    ·obtain ⟨v6, k9, h⟩ := z07 h
     obtain ⟨v7, k10, h⟩ := z07 h
     obtain rfl := retE h
     exact fin (ok X) 5 [.b true, .o [0, 1, 2, 3, 4, 5, 6, 7], .s (zbf v6) (zbg v6), .l (List.map z0i v7)] (pA k8 (pA (zjg (X := X) k9) (pA (apm (L := x2.2.2.2.2.2.2) (M := [v6.2]) zo1 k10) pT))) (by kernel_rfl)
    ·obtain rfl := retE h
     exact fin (ok X) 2 [.b false] (pA k8 pT) (by kernel_rfl)
   ·cases h
   ·refine adv (ok X) 1 [] pT (by kernel_rfl) ?_
    refine lp (ok X) (z6l) (fun (x3 : ((List z0n) × Int × Int × Int × Int × Int × (List z59))) => ⟨76, 0, [(2, [xP 0 0]), (8, [xP 1 0]), (9, [xP 2 0])], [oB 38 [.emp, .emp, .emp], oB 67 (bs (z03 (z00.mk x3.1 x3.2.1 x3.2.2.1 x3.2.2.2.1 x3.2.2.2.2.1 x3.2.2.2.2.2.1))), oB 38 [.row 3, .row 4, .row 5], oR true 71 6 (List.map z0e j1.2.2.2.2.2.2), oR true 75 2 (List.map z0i j2.2.2.2.2.2.2), oR true 79 3 (List.map z0g x3.2.2.2.2.2.2)]⟩) (fun (j3 : ((List z0n) × Int × Int × Int × Int × Int × (List z59))) => ⟨76, 0, [(2, [xP 0 0]), (8, [xP 1 0]), (9, [xP 2 0])], [oB 38 [.emp, .emp, .emp], oB 67 (bs (z03 (z00.mk j3.1 j3.2.1 j3.2.2.1 j3.2.2.2.1 j3.2.2.2.2.1 j3.2.2.2.2.2.1))), oB 38 [.row 3, .row 4, .row 5], oR true 71 6 (List.map z0e j1.2.2.2.2.2.2), oR true 75 2 (List.map z0i j2.2.2.2.2.2.2), oR true 79 3 (List.map z0g j3.2.2.2.2.2.2)]⟩) zgk (j2.1, j2.2.1, j2.2.2.1, j2.2.2.2.1, j2.2.2.2.2.1, j2.2.2.2.2.2.1, []) (fun _ => ⟨_, _, _, _, rfl⟩) h (by kernel_rfl) (fun x3 o h => ?_) (fun r' h => ?_) (fun j3 h => ?_)
    ·unfold z6l at h
     obtain ⟨v8, k11, h⟩ := z07 h
     refine adv (ok X) 3 [.s (z2v v8) (z2w v8)] (pA (z3b (X := X) k11) pT) (by kernel_rfl) ?_
     rcases iteE h with ⟨k12, h⟩ | ⟨k12, h⟩
     ·obtain ⟨v9, k13, h⟩ := z07 h
      obtain ⟨v10, k14, h⟩ := z07 h
      obtain rfl := retE h
      exact fin (ok X) 5 [.b true, .o [0, 1, 2, 3, 4, 5, 6, 7], .s (zbh v9) (zbi v9), .l (List.map z0g v10)] (pA k12 (pA (zjn (X := X) k13) (pA (apm (L := x3.2.2.2.2.2.2) (M := [v9.2]) zo2 k14) pT))) (by kernel_rfl)
     ·obtain rfl := retE h
      exact fin (ok X) 2 [.b false] (pA k12 pT) (by kernel_rfl)
    ·cases h
    ·refine adv (ok X) 3 [.i (j3.1.length : Int)] (pA (lm z1o j3.1) pT) (by kernel_rfl) ?_
     rcases iteE h with ⟨k15, h⟩ | ⟨k15, h⟩
     ·obtain ⟨v11, k16, h⟩ := z07 h
      refine adv (ok X) 5 [.b true, .s (z5n v11) (z5o v11)] (pA k15 (pA (z6c (X := X) k16) pT)) (by kernel_rfl) ?_
      rcases iteE h with ⟨k17, h⟩ | ⟨k17, h⟩
      ·obtain rfl := retE h
       exact fin (ok X) 4 [.b true, .o [0, 1, 2, 3, 4, 5, 6, 7, 8, 9, 10, 11]] (pA k17 pT) (by kernel_rfl)
      ·obtain rfl := retE h
       exact fin (ok X) 5 [.b false] (pA k17 pT) (by kernel_rfl)
     ·refine adv (ok X) 5 [.b false] (pA k15 pT) (by kernel_rfl) ?_
      rcases iteE h with ⟨k18, h⟩ | ⟨k18, h⟩
      ·obtain rfl := retE h
       exact fin (ok X) 4 [.b true, .o [0, 1, 2, 3, 4, 5, 6, 7, 8, 9, 10, 11]] (pA k18 pT) (by kernel_rfl)
      ·obtain rfl := retE h
       exact fin (ok X) 5 [.b false] (pA k18 pT) (by kernel_rfl)

theorem z0l {a0 : z01} {a1 : (List ByteArray)} {r : z01} (h : z0d a0 a1 = some r) : Cs Tryz.prog (GX X) 88 [xP 0 0, xL (List.map z0a a1)] [oB 164 [.row 1, .pv (.bool a0.f_form), .pv (.bool a0.f_deep), .pv (.int .i64 a0.f_blocks), .pv (.int .i64 a0.f_parens)], oR false 9 1 (List.map z0a a0.f_out)] (z0j r) (z0k r) := by
 refine fnT (cx := cx X) Tryz.f88 Tryz.call88 Tryz.func88 (by kernel_rfl) ?_
 unfold z0d at h
 obtain ⟨v1, k1, h⟩ := z07 h
 obtain rfl := retE h
 exact fin (ok X) 1 [.l (List.map z0a v1)] (pA (apm (L := a0.f_out) (M := a1) zf2 k1) pT) (by kernel_rfl)

theorem z3v {a0 : z01} {a1 : Bool} {r : z01} (h : z38 a0 a1 = some r) : Cs Tryz.prog (GX X) 90 [xP 0 0, xB a1] [oB 164 [.row 1, .pv (.bool a0.f_form), .pv (.bool a0.f_deep), .pv (.int .i64 a0.f_blocks), .pv (.int .i64 a0.f_parens)], oR false 9 1 (List.map z0a a0.f_out)] (z3o r) (z3p r) := by
 refine fnT (cx := cx X) Tryz.f90 Tryz.call90 Tryz.func90 (by kernel_rfl) ?_
 unfold z38 at h
 rcases iteE h with ⟨k1, h⟩ | ⟨k1, h⟩
 ·obtain rfl := retE h
  exact fin (ok X) 1 (bT 3 []) (pR 3 k1 pT) (by kernel_rfl)
 ·obtain rfl := retE h
  exact fin (ok X) 1 (bF 3 []) (pR 3 k1 pT) (by kernel_rfl)

theorem z26 {a0 : z01} {a1 : ByteArray} {r : z01} (h : z1i a0 a1 = some r) : Cs Tryz.prog (GX X) 89 [xP 0 0, xS a1] [oB 164 [.row 1, .pv (.bool a0.f_form), .pv (.bool a0.f_deep), .pv (.int .i64 a0.f_blocks), .pv (.int .i64 a0.f_parens)], oR false 9 1 (List.map z0a a0.f_out)] (z1x r) (z1y r) := by
 refine fnT (cx := cx X) Tryz.f89 Tryz.call89 Tryz.func89 (by kernel_rfl) ?_
 unfold z1i at h
 obtain ⟨v1, k1, h⟩ := z07 h
 refine adv (ok X) 3 [.c (zhf v1)] (pA (zqt (X := X) k1) pT) (by kernel_rfl) ?_
 refine jn (ok X) 1 (fun (j1 : (Bool × Bool × Int × Int × (List ByteArray))) => ⟨41, 2, [(0, [xP 0 0]), (1, [xS a1])], [oB 164 [.row 1, .pv (.bool j1.1), .pv (.bool j1.2.1), .pv (.int .i64 j1.2.2.1), .pv (.int .i64 j1.2.2.2.1)], oR false 9 1 (List.map z0a j1.2.2.2.2)]⟩) h (fun j1 h => ?_) (fun j1 h => ?_)
 ·rcases iteE h with ⟨k2, h⟩ | ⟨k2, h⟩
  ·rcases iteE h with ⟨k3, h⟩ | ⟨k3, h⟩
   ·obtain ⟨v2, k4, h⟩ := z07 h
    rcases iteE h with ⟨k5, h⟩ | ⟨k5, h⟩
    ·obtain ⟨v3, k6, h⟩ := z07 h
     obtain ⟨v4, k7, h⟩ := z07 h
     obtain rfl := retE h
     exact fin (ok X) 1 (.b true :: .b true :: .i (v1.1.length : Int) :: bT 4 (.e (z1o v2) :: bT 6 (.e (z1o v3) :: bT 5 [.s (z3o v4) (z3p v4)]))) (pA k2 (pA k2 (pA (lm z1o v1.1) (pA k2 (pA k2 (pA k3 (pA k3 (pA (ixm z1o k4) (pR 4 k3 (pA k5 (pA k5 (pA (ixm z1o k6) (pR 5 k5 (pA (z3v (X := X) k7) pT)))))))))))))) (by kernel_rfl)
    ·obtain ⟨v5, k8, h⟩ := z07 h
     obtain rfl := retE h
     exact fin (ok X) 1 (.b true :: .b true :: .i (v1.1.length : Int) :: bT 4 (.e (z1o v2) :: bT 4 (bF 7 [.s (z3o v5) (z3p v5)]))) (pA k2 (pA k2 (pA (lm z1o v1.1) (pA k2 (pA k2 (pA k3 (pA k3 (pA (ixm z1o k4) (pR 4 k3 (pR 7 k5 (pA (z3v (X := X) k8) pT))))))))))) (by kernel_rfl)
   ·obtain ⟨v6, k9, h⟩ := z07 h
    obtain rfl := retE h
    exact fin (ok X) 1 (.b true :: .b true :: .i (v1.1.length : Int) :: .b true :: .b true :: bF 13 [.s (z3o v6) (z3p v6)]) (pA k2 (pA k2 (pA (lm z1o v1.1) (pA k2 (pA k2 (pR 6 k3 (pR 7 ff (pA (z3v (X := X) k9) pT)))))))) (by kernel_rfl)
  ·obtain ⟨v7, k10, h⟩ := z07 h
   obtain rfl := retE h
   exact fin (ok X) 1 (bF 17 [.s (z3o v7) (z3p v7)]) (pR 4 k2 (pR 13 ff (pA (z3v (X := X) k10) pT))) (by kernel_rfl)
 ·obtain ⟨v8, k11, h⟩ := z07 h
  obtain rfl := retE h
  exact fin (ok X) 1 [.s (z0j v8) (z0k v8)] (pA (z0l (X := X) k11) pT) (by kernel_rfl)
end Go.Proofs.YtgmbfjcidiedfaaGreatDoor.Abs

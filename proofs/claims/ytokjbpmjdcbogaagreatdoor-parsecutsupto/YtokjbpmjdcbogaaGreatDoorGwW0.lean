/- Gw: the functions are these. -/
import Derived.Test.YtokjbpmjdcbogaaGreatDoorGwF
namespace Go.Proofs.YtokjbpmjdcbogaaGreatDoor.Abs
open Go Go.RowKit
set_option linter.unusedVariables false
set_option maxRecDepth 100000
set_option maxHeartbeats 4000000
variable {X : EV}
theorem z00y {a0 : ByteArray} {r : Int × Int} (h : zmb a0 = some r) : Cv Tryz.prog (GX X) 94 [xS a0] (zuk r) := zsk h
theorem zyk {a0 : ByteArray} {a1 : Int} {r : Int} (h : zsi a0 a1 = some r) : Cv Tryz.prog (GX X) 114 [xS a0, .c (.pv (.int .u8 a1))] (zsh r) := zwf h
theorem z7h {a0 : Int} {r : Bool} (h : zaz a0 = some r) : Cv Tryz.prog (GX X) 62 [.c (.pv (.int .u8 a0))] (z6c r) := by
 refine Cs.toV (?_ : Cs Tryz.prog (GX X) 62 [.c (.pv (.int .u8 a0))] [] (z6c r) (zql r)) (by kernel_rfl)
 refine fnT (cx := cx X) Tryz.f62 Tryz.call62 Tryz.func62 (by kernel_rfl) ?_
 unfold zaz at h
 rcases iteE h with ⟨k1, h⟩ | ⟨k1, h⟩
 ·obtain rfl := retE h
  exact fin (ok X) 5 (bT 3 []) (pR 3 k1 pT) (by kernel_rfl)
 ·obtain rfl := retE h
  exact fin (ok X) 5 (bF 3 []) (pR 3 k1 pT) (by kernel_rfl)

theorem zas {a0 : Int} {r : Bool} (h : zbu a0 = some r) : Cv Tryz.prog (GX X) 63 [.c (.pv (.int .u8 a0))] (z8q r) := by
 refine Cs.toV (?_ : Cs Tryz.prog (GX X) 63 [.c (.pv (.int .u8 a0))] [] (z8q r) (zsb r)) (by kernel_rfl)
 refine fnT (cx := cx X) Tryz.f63 Tryz.call63 Tryz.func63 (by kernel_rfl) ?_
 unfold zbu at h
 rcases iteE h with ⟨k1, h⟩ | ⟨k1, h⟩
 ·obtain rfl := retE h
  exact fin (ok X) 5 (bT 3 []) (pR 3 k1 pT) (by kernel_rfl)
 ·obtain rfl := retE h
  exact fin (ok X) 5 (bF 3 []) (pR 3 k1 pT) (by kernel_rfl)

theorem zsl {r : (List ByteArray)} (h : zm4 = some r) : Cv Tryz.prog (GX X) 99 [] (zii r) := by
 refine Cs.toV (?_ : Cs Tryz.prog (GX X) 99 [] [] (zii r) (zsc r)) (by kernel_rfl)
 refine fnT (cx := cx X) Tryz.f99 Tryz.call99 Tryz.func99 (by kernel_rfl) ?_
 unfold zm4 at h
 obtain rfl := retE h
 exact fin (ok X) 5 [] pT (by kernel_rfl)

theorem znm {a0 : ByteArray} {r : Bool} (h : zcr a0 = some r) : Cv Tryz.prog (GX X) 64 [xS a0] (zcm r) := by
 refine Cs.toV (?_ : Cs Tryz.prog (GX X) 64 [xS a0] [] (zcm r) (zi0 r)) (by kernel_rfl)
 refine fnT (cx := cx X) Tryz.f64 Tryz.call64 Tryz.func64 (by kernel_rfl) ?_
 unfold zcr at h
 obtain ⟨v1, k1, h⟩ := z06 h
 refine adv (ok X) 7 [.c (zii v1)] (pA (zsl (X := X) k1) pT) (by kernel_rfl) ?_
 refine lp (ok X) (z7m a0 v1) (fun (x1 : Int) => ⟨18, 0, [(0, [xS a0]), (3, [xL (List.map z1j v1)]), (4, [xI x1])], []⟩) (fun (j1 : Unit) => ⟨18, 0, [], []⟩) znc 0 (fun _ => ⟨_, _, _, _, rfl⟩) h (by kernel_rfl) (fun x1 o h => ?_) (fun r' h => ?_) (fun j1 h => ?_)
 ·unfold z7m at h
  refine adv (ok X) 3 [.i (v1.length : Int)] (pA (lm z1j v1) pT) (by kernel_rfl) ?_
  rcases iteE h with ⟨k2, h⟩ | ⟨k2, h⟩
  ·obtain ⟨v2, k3, h⟩ := z06 h
   refine adv (ok X) 6 [.b true, .e [.str v2]] (pA k2 (pA (ixm z1j k3) pT)) (by kernel_rfl) ?_
   rcases iteE h with ⟨k4, h⟩ | ⟨k4, h⟩
   ·obtain rfl := retE h
    exact fin (ok X) 4 [.b true] (pA k4 pT) (by kernel_rfl)
   ·obtain rfl := retE h
    exact fin (ok X) 4 [.b false] (pA k4 pT) (by kernel_rfl)
  ·obtain rfl := retE h
   exact fin (ok X) 2 [.b false] (pA k2 pT) (by kernel_rfl)
 ·obtain rfl := retE h
  kernel_rfl
 ·obtain rfl := retE h
  exact fin (ok X) 3 [] pT (by kernel_rfl)

theorem zwg {a0 : ByteArray} {a1 : Int} {r : Int} (h : zje a0 a1 = some r) : Cv Tryz.prog (GX X) 65 [xS a0, xI a1] (zhf r) := by
 refine Cs.toV (?_ : Cs Tryz.prog (GX X) 65 [xS a0, xI a1] [] (zhf r) (zo5 r)) (by kernel_rfl)
 refine fnT (cx := cx X) Tryz.f65 Tryz.call65 Tryz.func65 (by kernel_rfl) ?_
 unfold zje at h
 refine adv (ok X) 7 [] pT (by kernel_rfl) ?_
 refine lp (ok X) (zc8 a0 a1) (fun (x1 : Int) => ⟨44, 0, [(0, [xS a0]), (1, [xI a1]), (5, [xL (List.map z1j [(ByteArray.mk #[61, 61]), (ByteArray.mk #[33, 61]), (ByteArray.mk #[60, 61]), (ByteArray.mk #[62, 61])])]), (6, [xI x1])], []⟩) (fun (j1 : Unit) => ⟨44, 0, [(0, [xS a0]), (1, [xI a1])], []⟩) zo6 0 (fun _ => ⟨_, _, _, _, rfl⟩) h (by kernel_rfl) (fun x1 o h => ?_) (fun r' h => ?_) (fun j1 h => ?_)
 ·unfold zc8 at h
  rcases iteE h with ⟨k1, h⟩ | ⟨k1, h⟩
  ·refine adv (ok X) 8 [.b true] (pA k1 pT) (by kernel_rfl) ?_
   refine jn (ok X) 1 (fun (j2 : Bool) => ⟨44, 0, [(0, [xS a0]), (1, [xI a1]), (5, [xL (List.map z1j [(ByteArray.mk #[61, 61]), (ByteArray.mk #[33, 61]), (ByteArray.mk #[60, 61]), (ByteArray.mk #[62, 61])])]), (6, [xI x1]), (30, [xB j2])], []⟩) h (fun j2 h => ?_) (fun j2 h => ?_)
   ·rcases iteE h with ⟨k2, h⟩ | ⟨k2, h⟩
    ·obtain ⟨v1, k3, h⟩ := z06 h
     obtain ⟨v2, k4, h⟩ := z06 h
     obtain rfl := retE h
     exact fin (ok X) 1 (.o [0, 1, 2, 3, 4, 5, 6, 7, 8, 9, 10, 11, 12, 13, 14, 15, 16] :: bT 5 (.x [xS v1] :: bT 3 (.e [.str v2] :: bT 3 []))) (pR 5 k2 (pA k3 (pR 3 k2 (pA (ixm z1j k4) (pR 3 k2 pT))))) (by kernel_rfl)
    ·obtain rfl := retE h
     exact fin (ok X) 1 (.o [0, 1, 2, 3, 4, 5, 6, 7, 8, 9, 10, 11, 12, 13, 14, 15, 16] :: bF 11 []) (pR 11 k2 pT) (by kernel_rfl)
   ·rcases iteE h with ⟨k5, h⟩ | ⟨k5, h⟩
    ·obtain rfl := retE h
     exact fin (ok X) 4 [.b true] (pA k5 pT) (by kernel_rfl)
    ·obtain rfl := retE h
     exact fin (ok X) 4 [.b false] (pA k5 pT) (by kernel_rfl)
  ·obtain rfl := retE h
   exact fin (ok X) 5 [.b false] (pA k1 pT) (by kernel_rfl)
 ·obtain rfl := retE h
  kernel_rfl
 ·refine adv (ok X) 5 [] pT (by kernel_rfl) ?_
  refine lp (ok X) (zc9 a0 a1) (fun (x3 : Int) => ⟨44, 0, [(0, [xS a0]), (1, [xI a1]), (7, [xS (ByteArray.mk #[123, 125, 40, 41, 59, 44, 46, 61, 60, 62, 43, 45, 42, 47, 37])]), (8, [xI x3])], []⟩) (fun (j3 : Unit) => ⟨44, 0, [], []⟩) zo6 0 (fun _ => ⟨_, _, _, _, rfl⟩) h (by kernel_rfl) (fun x3 o h => ?_) (fun r' h => ?_) (fun j3 h => ?_)
  ·unfold zc9 at h
   rcases iteE h with ⟨k6, h⟩ | ⟨k6, h⟩
   ·obtain ⟨v3, k7, h⟩ := z06 h
    obtain ⟨v4, k8, h⟩ := z06 h
    refine adv (ok X) 9 [.b true, .o [0, 1, 2, 3, 4, 5, 6], .i v3, .i v4] (pA k6 (pA k7 (pA k8 pT))) (by kernel_rfl) ?_
    rcases iteE h with ⟨k9, h⟩ | ⟨k9, h⟩
    ·obtain rfl := retE h
     exact fin (ok X) 4 [.b true] (pA k9 pT) (by kernel_rfl)
    ·obtain rfl := retE h
     exact fin (ok X) 4 [.b false] (pA k9 pT) (by kernel_rfl)
   ·obtain rfl := retE h
    exact fin (ok X) 5 [.b false] (pA k6 pT) (by kernel_rfl)
  ·obtain rfl := retE h
   kernel_rfl
  ·obtain rfl := retE h
   exact fin (ok X) 3 [] pT (by kernel_rfl)

theorem zqv {a0 : ByteArray} {r : ((List z0n) × Int × Int)} (h : zgi a0 = some r) : Cv Tryz.prog (GX X) 25 [xS a0] (zgj r) := by
 refine Cs.toV (?_ : Cs Tryz.prog (GX X) 25 [xS a0] [] (zgj r) (zqm r)) (by kernel_rfl)
 refine fnT (cx := cx X) Tryz.f25 Tryz.call25 Tryz.func25 (by kernel_rfl) ?_
 unfold zgi at h
 refine adv (ok X) 7 [] pT (by kernel_rfl) ?_
 refine lp (ok X) (z97 a0) (fun (x1 : (Int × (List z0n))) => ⟨153, 0, [(0, [xS a0]), (5, [xR 0]), (6, [xI x1.1])], [oR true 146 4 (List.map z0t x1.2)]⟩) (fun (j1 : (List z0n)) => ⟨153, 0, [(0, [xS a0]), (5, [xR 0])], [oR true 146 4 (List.map z0t j1)]⟩) zjf (0, []) (fun _ => ⟨_, _, _, _, rfl⟩) h (by kernel_rfl) (fun x1 o h => ?_) (fun r' h => ?_) (fun j1 h => ?_)
 ·unfold z97 at h
  rcases iteE h with ⟨k1, h⟩ | ⟨k1, h⟩
  ·obtain ⟨v1, k2, h⟩ := z06 h
   refine adv (ok X) 10 [.b true, .i v1] (pA k1 (pA k2 pT)) (by kernel_rfl) ?_
   refine jn (ok X) 1 (fun (j2 : Bool) => ⟨153, 0, [(0, [xS a0]), (5, [xR 0]), (6, [xI x1.1]), (7, [.c (.pv (.int .u8 v1))]), (24, [xB j2])], [oR true 146 4 (List.map z0t x1.2)]⟩) h (fun j2 h => ?_) (fun j2 h => ?_)
   ·rcases iteE h with ⟨k3, h⟩ | ⟨k3, h⟩
    ·obtain rfl := retE h
     exact fin (ok X) 1 (bT 3 []) (pR 3 k3 pT) (by kernel_rfl)
    ·obtain rfl := retE h
     exact fin (ok X) 1 (bF 3 []) (pR 3 k3 pT) (by kernel_rfl)
   ·rcases iteE h with ⟨k4, h⟩ | ⟨k4, h⟩
    ·obtain rfl := retE h
     exact fin (ok X) 4 [.b true] (pA k4 pT) (by kernel_rfl)
    ·refine adv (ok X) 5 [.b false] (pA k4 pT) (by kernel_rfl) ?_
     refine lp (ok X) (z9u a0 v1) (fun (x3 : Int) => ⟨153, 0, [(0, [xS a0]), (5, [xR 0]), (6, [xI x1.1]), (7, [.c (.pv (.int .u8 v1))]), (8, [xI x3])], [oR true 146 4 (List.map z0t x1.2)]⟩) (fun (j3 : Int) => ⟨153, 0, [(0, [xS a0]), (5, [xR 0]), (6, [xI x1.1]), (7, [.c (.pv (.int .u8 v1))]), (8, [xI j3])], [oR true 146 4 (List.map z0t x1.2)]⟩) zjf x1.1 (fun _ => ⟨_, _, _, _, rfl⟩) h (by kernel_rfl) (fun x3 o h => ?_) (fun r' h => ?_) (fun j3 h => ?_)
     ·unfold z9u at h
      refine adv (ok X) 2 [] pT (by kernel_rfl) ?_
      refine jn (ok X) 1 (fun (j4 : Bool) => ⟨153, 0, [(0, [xS a0]), (5, [xR 0]), (6, [xI x1.1]), (7, [.c (.pv (.int .u8 v1))]), (8, [xI x3]), (51, [xB j4])], [oR true 146 4 (List.map z0t x1.2)]⟩) h (fun j4 h => ?_) (fun j4 h => ?_)
      ·rcases iteE h with ⟨k5, h⟩ | ⟨k5, h⟩
       ·obtain ⟨v2, k6, h⟩ := z06 h
        rcases iteE h with ⟨k7, h⟩ | ⟨k7, h⟩
        ·obtain ⟨v3, k8, h⟩ := z06 h
         obtain ⟨v4, k9, h⟩ := z06 h
         rcases iteE h with ⟨k10, h⟩ | ⟨k10, h⟩
         ·obtain rfl := retE h
          exact fin (ok X) 1 (.b true :: .b true :: .c (z6c v2) :: bT 9 (.i v3 :: .b true :: .c (z6c v4) :: bT 8 [])) (pA k5 (pA k5 (pA (z7h (X := X) k6) (pA k5 (pA k7 (pA k7 (pA k5 (pA k7 (pA k5 (pR 3 tt (pA k8 (pA tt (pA (z7h (X := X) k9) (pA tt (pR 4 k10 (pA tt (pA k10 (pA tt pT)))))))))))))))))) (by kernel_rfl)
         ·obtain ⟨v5, k11, h⟩ := z06 h
          obtain ⟨v6, k12, h⟩ := z06 h
          obtain rfl := retE h
          exact fin (ok X) 1 (.b true :: .b true :: .c (z6c v2) :: bT 9 (.i v3 :: .b true :: .c (z6c v4) :: .b true :: bF 3 [.i v5, .b false, .c (z8q v6), .b true, .b false, .b true])) (pA k5 (pA k5 (pA (z7h (X := X) k6) (pA k5 (pA k7 (pA k7 (pA k5 (pA k7 (pA k5 (pR 3 tt (pA k8 (pA tt (pA (z7h (X := X) k9) (pA tt (pR 3 k10 (pA k11 (pA k10 (pA (zas (X := X) k12) (pA tt (pA k10 (pA tt pT))))))))))))))))))))) (by kernel_rfl)
        ·obtain ⟨v7, k13, h⟩ := z06 h
         rcases iteE h with ⟨k14, h⟩ | ⟨k14, h⟩
         ·obtain ⟨v8, k15, h⟩ := z06 h
          obtain ⟨v9, k16, h⟩ := z06 h
          rcases iteE h with ⟨k17, h⟩ | ⟨k17, h⟩
          ·obtain rfl := retE h
           exact fin (ok X) 1 (.b true :: .b true :: .c (z6c v2) :: .b true :: .b false :: .b false :: .c (z8q v7) :: .b true :: .b false :: bT 4 (.i v8 :: .b true :: .c (z6c v9) :: bT 8 [])) (pA k5 (pA k5 (pA (z7h (X := X) k6) (pA k5 (pA k7 (pA k7 (pA (zas (X := X) k13) (pA k5 (pA k7 (pA k5 (pR 3 k14 (pA k15 (pA k14 (pA (z7h (X := X) k16) (pA k14 (pR 4 k17 (pA k14 (pA k17 (pA k14 pT))))))))))))))))))) (by kernel_rfl)
          ·obtain ⟨v10, k18, h⟩ := z06 h
           obtain ⟨v11, k19, h⟩ := z06 h
           obtain rfl := retE h
           exact fin (ok X) 1 (.b true :: .b true :: .c (z6c v2) :: .b true :: .b false :: .b false :: .c (z8q v7) :: .b true :: .b false :: bT 4 (.i v8 :: .b true :: .c (z6c v9) :: .b true :: bF 3 [.i v10, .b false, .c (z8q v11), .b true, .b false, .b true])) (pA k5 (pA k5 (pA (z7h (X := X) k6) (pA k5 (pA k7 (pA k7 (pA (zas (X := X) k13) (pA k5 (pA k7 (pA k5 (pR 3 k14 (pA k15 (pA k14 (pA (z7h (X := X) k16) (pA k14 (pR 3 k17 (pA k18 (pA k17 (pA (zas (X := X) k19) (pA k14 (pA k17 (pA k14 pT)))))))))))))))))))))) (by kernel_rfl)
         ·obtain rfl := retE h
          exact fin (ok X) 1 (.b true :: .b true :: .c (z6c v2) :: .b true :: .b false :: .b false :: .c (z8q v7) :: .b true :: .b false :: .b true :: bF 7 []) (pA k5 (pA k5 (pA (z7h (X := X) k6) (pA k5 (pA k7 (pA k7 (pA (zas (X := X) k13) (pA k5 (pA k7 (pA k5 (pR 7 k14 pT))))))))))) (by kernel_rfl)
       ·obtain rfl := retE h
        exact fin (ok X) 1 (bF 12 []) (pR 5 k5 (pR 7 ff pT)) (by kernel_rfl)
      ·rcases iteE h with ⟨k20, h⟩ | ⟨k20, h⟩
       ·obtain rfl := retE h
        exact fin (ok X) 5 [.b true] (pA k20 pT) (by kernel_rfl)
       ·obtain rfl := retE h
        exact fin (ok X) 2 [.b false] (pA k20 pT) (by kernel_rfl)
     ·cases h
     ·refine adv (ok X) 3 [] pT (by kernel_rfl) ?_
      refine jr (ok X) 1 (fun (j5 : (Int × Int × ByteArray × Int)) => ⟨153, 0, [(0, [xS a0]), (5, [xR 0]), (8, [xI j5.1]), (9, [xP 1 0])], [oR true 146 4 (List.map z0t x1.2), oB 146 (bs (z0t (z0n.mk j5.2.1 j5.2.2.1 j5.2.2.2 x1.1)))]⟩) zjf (fun _ => ⟨_, _, _, _, rfl⟩) h (fun o h => ?_) (fun r' h => ?_) (fun j5 h => ?_)
      ·obtain ⟨v12, k21, h⟩ := z06 h
       refine adv (ok X) 3 [.c (z6c v12)] (pA (z7h (X := X) k21) pT) (by kernel_rfl) ?_
       rcases iteE h with ⟨k22, h⟩ | ⟨k22, h⟩
       ·obtain ⟨v13, k23, h⟩ := z06 h
        obtain ⟨v14, k24, h⟩ := z06 h
        refine adv (ok X) 6 [.b true, .o [0, 1, 2, 3, 4, 5, 6, 7], .x [xS v13], .c (zcm v14)] (pA k22 (pA k23 (pA (znm (X := X) k24) pT))) (by kernel_rfl) ?_
        rcases iteE h with ⟨k25, h⟩ | ⟨k25, h⟩
        ·refine adv (ok X) 4 [.b true] (pA k25 pT) (by kernel_rfl) ?_
         rcases iteE h with ⟨k26, h⟩ | ⟨k26, h⟩
         ·obtain rfl := retE h
          exact fin (ok X) 4 [.b true] (pA k26 pT) (by kernel_rfl)
         ·obtain rfl := retE h
          exact fin (ok X) 3 [.b false] (pA k26 pT) (by kernel_rfl)
        ·refine adv (ok X) 4 [.b false] (pA k25 pT) (by kernel_rfl) ?_
         rcases iteE h with ⟨k27, h⟩ | ⟨k27, h⟩
         ·obtain rfl := retE h
          exact fin (ok X) 4 [.b true] (pA k27 pT) (by kernel_rfl)
         ·obtain rfl := retE h
          exact fin (ok X) 3 [.b false] (pA k27 pT) (by kernel_rfl)
       ·obtain ⟨v15, k28, h⟩ := z06 h
        refine adv (ok X) 3 [.b false, .c (z8q v15)] (pA k22 (pA (zas (X := X) k28) pT)) (by kernel_rfl) ?_
        rcases iteE h with ⟨k29, h⟩ | ⟨k29, h⟩
        ·obtain ⟨v16, k30, h⟩ := z06 h
         refine adv (ok X) 5 [.b true, .o [0, 1, 2, 3, 4, 5, 6, 7], .x [xS v16]] (pA k29 (pA k30 pT)) (by kernel_rfl) ?_
         refine jn (ok X) 1 (fun (j6 : Bool) => ⟨153, 0, [(0, [xS a0]), (5, [xR 0]), (6, [xI x1.1]), (8, [xI j3]), (9, [xP 1 0]), (111, [xB j6])], [oR true 146 4 (List.map z0t x1.2), oB 146 (bs (z0t (z0n.mk 2 v16 0 x1.1)))]⟩) h (fun j6 h => ?_) (fun j6 h => ?_)
         ·rcases iteE h with ⟨k31, h⟩ | ⟨k31, h⟩
          ·obtain rfl := retE h
           exact fin (ok X) 1 (bT 7 []) (pR 7 k31 pT) (by kernel_rfl)
          ·rcases iteE h with ⟨k32, h⟩ | ⟨k32, h⟩
           ·obtain rfl := retE h
            exact fin (ok X) 1 (bF 5 [.b true, .b true, .b false, .b true, .b false]) (pR 5 k31 (pA k32 (pA k32 (pA k31 (pA k32 (pA k31 pT)))))) (by kernel_rfl)
           ·obtain rfl := retE h
            exact fin (ok X) 1 (bF 10 []) (pR 5 k31 (pA k32 (pA k32 (pA k31 (pA k32 (pA k31 pT)))))) (by kernel_rfl)
         ·rcases iteE h with ⟨k33, h⟩ | ⟨k33, h⟩
          ·obtain rfl := retE h
           exact fin (ok X) 4 [.b true] (pA k33 pT) (by kernel_rfl)
          ·refine adv (ok X) 5 [.b false] (pA k33 pT) (by kernel_rfl) ?_
           refine lp (ok X) (zb0 v16 x1) (fun (x7 : (Int × Int)) => ⟨153, 0, [(0, [xS a0]), (5, [xR 0]), (6, [xI x1.1]), (8, [xI j3]), (9, [xP 1 0]), (10, [xI x7.1])], [oR true 146 4 (List.map z0t x1.2), oB 146 (bs (z0t (z0n.mk 2 v16 x7.2 x1.1)))]⟩) (fun (j7 : Int) => ⟨153, 0, [(0, [xS a0]), (5, [xR 0]), (6, [xI x1.1]), (8, [xI j3]), (9, [xP 1 0])], [oR true 146 4 (List.map z0t x1.2), oB 146 (bs (z0t (z0n.mk 2 v16 j7 x1.1)))]⟩) zjf (0, 0) (fun _ => ⟨_, _, _, _, rfl⟩) h (by kernel_rfl) (fun x7 o h => ?_) (fun r' h => ?_) (fun j7 h => ?_)
           ·unfold zb0 at h
            rcases iteE h with ⟨k34, h⟩ | ⟨k34, h⟩
            ·obtain ⟨v17, k35, h⟩ := z06 h
             obtain ⟨v18, k36, h⟩ := z06 h
             refine adv (ok X) 10 [.b true, .i v17, .c (z8q v18)] (pA k34 (pA k35 (pA (zas (X := X) k36) pT))) (by kernel_rfl) ?_
             rcases iteE h with ⟨k37, h⟩ | ⟨k37, h⟩
             ·obtain rfl := retE h
              exact fin (ok X) 4 [.b true] (pA k37 pT) (by kernel_rfl)
             ·obtain ⟨v19, k38, h⟩ := z06 h
              obtain rfl := retE h
              exact fin (ok X) 5 [.b false, .o [0, 1, 2, 3, 4, 5, 6, 7, 8, 9, 10, 11], .i v19] (pA k37 (pA k38 pT)) (by kernel_rfl)
            ·obtain rfl := retE h
             exact fin (ok X) 5 [.b false] (pA k34 pT) (by kernel_rfl)
           ·obtain rfl := retE h
            kernel_rfl
           ·rcases iteE h with ⟨k39, h⟩ | ⟨k39, h⟩
            ·obtain rfl := retE h
             exact fin (ok X) 6 [.b true] (pA k39 pT) (by kernel_rfl)
            ·obtain rfl := retE h
             exact fin (ok X) 5 [.b false] (pA k39 pT) (by kernel_rfl)
        ·obtain ⟨v20, k40, h⟩ := z06 h
         refine adv (ok X) 6 [.b false, .c (zhf v20)] (pA k29 (pA (zwg (X := X) k40) pT)) (by kernel_rfl) ?_
         rcases iteE h with ⟨k41, h⟩ | ⟨k41, h⟩
         ·obtain rfl := retE h
          exact fin (ok X) 4 [.b true] (pA k41 pT) (by kernel_rfl)
         ·obtain ⟨v21, k42, h⟩ := z06 h
          obtain rfl := retE h
          exact fin (ok X) 6 [.b false, .o [0, 1, 2, 3, 4, 5, 6, 7], .x [xS v21]] (pA k41 (pA k42 pT)) (by kernel_rfl)
      ·obtain rfl := retE h
       kernel_rfl
      ·obtain ⟨v22, k43, h⟩ := z06 h
       obtain rfl := retE h
       exact fin (ok X) 4 [.l (List.map z0t v22)] (pA (apm (L := x1.2) (M := [(z0n.mk j5.2.1 j5.2.2.1 j5.2.2.2 x1.1)]) zmi k43) pT) (by kernel_rfl)
  ·obtain rfl := retE h
   exact fin (ok X) 5 [.b false] (pA k1 pT) (by kernel_rfl)
 ·obtain rfl := retE h
  kernel_rfl
 ·refine adv (ok X) 3 [.i (j1.length : Int)] (pA (lm z0t j1) pT) (by kernel_rfl) ?_
  rcases iteE h with ⟨k44, h⟩ | ⟨k44, h⟩
  ·obtain rfl := retE h
   exact fin (ok X) 4 [.b true] (pA k44 pT) (by kernel_rfl)
  ·obtain rfl := retE h
   exact fin (ok X) 5 [.b false] (pA k44 pT) (by kernel_rfl)

theorem z23 {a0 : ByteArray} {r : Bool} (h : z6v a0 = some r) : Cv Tryz.prog (GX X) 75 [xS a0] (z1v r) := by
 refine Cs.toV (?_ : Cs Tryz.prog (GX X) 75 [xS a0] [] (z1v r) (zw5 r)) (by kernel_rfl)
 refine fnT (cx := cx X) Tryz.f75 Tryz.call75 Tryz.func75 (by kernel_rfl) ?_
 unfold z6v at h
 obtain ⟨v1, k1, h⟩ := z06 h
 refine adv (ok X) 5 [.c (zgj v1)] (pA (zqv (X := X) k1) pT) (by kernel_rfl) ?_
 rcases iteE h with ⟨k2, h⟩ | ⟨k2, h⟩
 ·rcases iteE h with ⟨k3, h⟩ | ⟨k3, h⟩
  ·obtain ⟨v2, k4, h⟩ := z06 h
   rcases iteE h with ⟨k5, h⟩ | ⟨k5, h⟩
   ·obtain ⟨v3, k6, h⟩ := z06 h
    obtain rfl := retE h
    exact fin (ok X) 2 (.b true :: .b true :: .i (v1.1.length : Int) :: bT 4 (.e (z0t v2) :: bT 6 (.e (z0t v3) :: bT 5 []))) (pA k2 (pA k2 (pA (lm z0t v1.1) (pA k2 (pA k2 (pA k3 (pA k3 (pA (ixm z0t k4) (pR 4 k3 (pA k5 (pA k5 (pA (ixm z0t k6) (pR 5 k5 pT))))))))))))) (by kernel_rfl)
   ·obtain rfl := retE h
    exact fin (ok X) 2 (.b true :: .b true :: .i (v1.1.length : Int) :: bT 4 (.e (z0t v2) :: bT 4 (bF 7 []))) (pA k2 (pA k2 (pA (lm z0t v1.1) (pA k2 (pA k2 (pA k3 (pA k3 (pA (ixm z0t k4) (pR 4 k3 (pR 7 k5 pT)))))))))) (by kernel_rfl)
  ·obtain rfl := retE h
   exact fin (ok X) 2 (.b true :: .b true :: .i (v1.1.length : Int) :: .b true :: .b true :: bF 13 []) (pA k2 (pA k2 (pA (lm z0t v1.1) (pA k2 (pA k2 (pR 6 k3 (pR 7 ff pT))))))) (by kernel_rfl)
 ·obtain rfl := retE h
  exact fin (ok X) 2 (bF 17 []) (pR 4 k2 (pR 13 ff pT)) (by kernel_rfl)

theorem z8a {a0 : Int} {r : Bool} (h : zb1 a0 = some r) : Cv Tryz.prog (GX X) 76 [xI a0] (z6s r) := by
 refine Cs.toV (?_ : Cs Tryz.prog (GX X) 76 [xI a0] [] (z6s r) (zqn r)) (by kernel_rfl)
 refine fnT (cx := cx X) Tryz.f76 Tryz.call76 Tryz.func76 (by kernel_rfl) ?_
 unfold zb1 at h
 rcases iteE h with ⟨k1, h⟩ | ⟨k1, h⟩
 ·obtain rfl := retE h
  exact fin (ok X) 5 (bT 3 []) (pR 3 k1 pT) (by kernel_rfl)
 ·obtain rfl := retE h
  exact fin (ok X) 5 (bF 3 []) (pR 3 k1 pT) (by kernel_rfl)

theorem zgt {a0 : Int} {r : Bool} (h : zfl a0 = some r) : Cv Tryz.prog (GX X) 104 [xI a0] (zdz r) := by
 refine Cs.toV (?_ : Cs Tryz.prog (GX X) 104 [xI a0] [] (zdz r) (zyh r)) (by kernel_rfl)
 refine fnT (cx := cx X) Tryz.f104 Tryz.call104 Tryz.func104 (by kernel_rfl) ?_
 unfold zfl at h
 rcases iteE h with ⟨k1, h⟩ | ⟨k1, h⟩
 ·obtain rfl := retE h
  exact fin (ok X) 5 (bT 3 []) (pR 3 k1 pT) (by kernel_rfl)
 ·obtain rfl := retE h
  exact fin (ok X) 5 (bF 3 []) (pR 3 k1 pT) (by kernel_rfl)

theorem zwh {n : Nat} (ih_r02_expr : ∀ (a0 : z07) (r : Bool), z66 n a0 = some r → Cv Tryz.prog (GX X) 102 [.agg (bs (z0w a0))] (z6w r)) (a0 : z07) (r : Bool) (h : z66 (n + 1) a0 = some r) : Cv Tryz.prog (GX X) 102 [.agg (bs (z0w a0))] (z6w r) := by
 refine Cs.toV (?_ : Cs Tryz.prog (GX X) 102 [.agg (bs (z0w a0))] [] (z6w r) (zw6 r)) (by kernel_rfl)
 refine fnT (cx := cx X) Tryz.f102 Tryz.call102 Tryz.func102 (by kernel_rfl) ?_
 rw [z66] at h
 rcases iteE h with ⟨k1, h⟩ | ⟨k1, h⟩
 ·refine adv (ok X) 8 [.b true] (pA k1 pT) (by kernel_rfl) ?_
  refine jn (ok X) 1 (fun (j1 : Bool) => ⟨66, 0, [(2, [xB j1])], []⟩) h (fun j1 h => ?_) (fun j1 h => ?_)
  ·obtain ⟨v1, k2, h⟩ := z06 h
   rcases iteE h with ⟨k3, h⟩ | ⟨k3, h⟩
   ·obtain rfl := retE h
    exact fin (ok X) 1 (.c (z6s v1) :: bT 3 [.i (a0.Kids.length : Int), .b true, .b true]) (pA (z8a (X := X) k2) (pR 3 k3 (pA (lm z1z a0.Kids) (pA k3 (pA k3 pT))))) (by kernel_rfl)
   ·obtain rfl := retE h
    exact fin (ok X) 1 (.c (z6s v1) :: bF 5 []) (pA (z8a (X := X) k2) (pR 5 k3 pT)) (by kernel_rfl)
  ·obtain rfl := retE h
   exact fin (ok X) 1 [] pT (by kernel_rfl)
 ·refine adv (ok X) 9 [.b false] (pA k1 pT) (by kernel_rfl) ?_
  rcases iteE h with ⟨k4, h⟩ | ⟨k4, h⟩
  ·refine adv (ok X) 2 [.b true] (pA k4 pT) (by kernel_rfl) ?_
   refine jn (ok X) 1 (fun (j2 : Bool) => ⟨66, 0, [(2, [xB j2])], []⟩) h (fun j2 h => ?_) (fun j2 h => ?_)
   ·obtain ⟨v2, k5, h⟩ := z06 h
    rcases iteE h with ⟨k6, h⟩ | ⟨k6, h⟩
    ·obtain rfl := retE h
     exact fin (ok X) 1 (.c (z1v v2) :: bT 3 [.i (a0.Kids.length : Int), .b true, .b true]) (pA (z23 (X := X) k5) (pR 3 k6 (pA (lm z1z a0.Kids) (pA k6 (pA k6 pT))))) (by kernel_rfl)
    ·obtain rfl := retE h
     exact fin (ok X) 1 (.c (z1v v2) :: bF 5 []) (pA (z23 (X := X) k5) (pR 5 k6 pT)) (by kernel_rfl)
   ·obtain rfl := retE h
    exact fin (ok X) 1 [] pT (by kernel_rfl)
  ·refine adv (ok X) 3 [.b false] (pA k4 pT) (by kernel_rfl) ?_
   rcases iteE h with ⟨k7, h⟩ | ⟨k7, h⟩
   ·refine adv (ok X) 2 [.b true] (pA k7 pT) (by kernel_rfl) ?_
    refine jn (ok X) 1 (fun (j3 : Bool) => ⟨66, 0, [(2, [xB j3])], []⟩) h (fun j3 h => ?_) (fun j3 h => ?_)
    ·rcases iteE h with ⟨k8, h⟩ | ⟨k8, h⟩
     ·obtain ⟨v3, k9, h⟩ := z06 h
      obtain ⟨v4, k10, h⟩ := z06 h
      obtain rfl := retE h
      exact fin (ok X) 1 (.i (a0.Kids.length : Int) :: bT 3 [.e (z0w v3), .b true, .b true, .c (z6w v4), .b true]) (pA (lm z1z a0.Kids) (pR 3 k8 (pA (ixr z25 k9) (pA k8 (pA k8 (pA (ih_r02_expr _ _ k10) (pA k8 pT))))))) (by kernel_rfl)
     ·obtain rfl := retE h
      exact fin (ok X) 1 (.i (a0.Kids.length : Int) :: bF 6 []) (pA (lm z1z a0.Kids) (pR 6 k8 pT)) (by kernel_rfl)
    ·obtain rfl := retE h
     exact fin (ok X) 1 [] pT (by kernel_rfl)
   ·obtain ⟨v5, k11, h⟩ := z06 h
    refine adv (ok X) 3 [.b false, .c (zdz v5)] (pA k7 (pA (zgt (X := X) k11) pT)) (by kernel_rfl) ?_
    rcases iteE h with ⟨k12, h⟩ | ⟨k12, h⟩
    ·refine adv (ok X) 2 [.b true] (pA k12 pT) (by kernel_rfl) ?_
     refine jn (ok X) 1 (fun (j4 : Bool) => ⟨66, 0, [(2, [xB j4])], []⟩) h (fun j4 h => ?_) (fun j4 h => ?_)
     ·rcases iteE h with ⟨k13, h⟩ | ⟨k13, h⟩
      ·obtain ⟨v6, k14, h⟩ := z06 h
       obtain ⟨v7, k15, h⟩ := z06 h
       rcases iteE h with ⟨k16, h⟩ | ⟨k16, h⟩
       ·obtain ⟨v8, k17, h⟩ := z06 h
        obtain ⟨v9, k18, h⟩ := z06 h
        obtain rfl := retE h
        exact fin (ok X) 1 (.i (a0.Kids.length : Int) :: bT 3 (.e (z0w v6) :: .b true :: .b true :: .c (z6w v7) :: bT 4 [.e (z0w v8), .b true, .b true, .c (z6w v9), .b true])) (pA (lm z1z a0.Kids) (pR 3 k13 (pA (ixr z25 k14) (pA k13 (pA k13 (pA (ih_r02_expr _ _ k15) (pA k13 (pR 3 k16 (pA (ixr z25 k17) (pA k16 (pA k16 (pA (ih_r02_expr _ _ k18) (pA k16 pT))))))))))))) (by kernel_rfl)
       ·obtain rfl := retE h
        exact fin (ok X) 1 (.i (a0.Kids.length : Int) :: bT 3 (.e (z0w v6) :: .b true :: .b true :: .c (z6w v7) :: .b true :: bF 6 [])) (pA (lm z1z a0.Kids) (pR 3 k13 (pA (ixr z25 k14) (pA k13 (pA k13 (pA (ih_r02_expr _ _ k15) (pA k13 (pR 6 k16 pT)))))))) (by kernel_rfl)
      ·obtain rfl := retE h
       exact fin (ok X) 1 (.i (a0.Kids.length : Int) :: bF 12 []) (pA (lm z1z a0.Kids) (pR 6 k13 (pR 6 ff pT))) (by kernel_rfl)
     ·obtain rfl := retE h
      exact fin (ok X) 1 [] pT (by kernel_rfl)
    ·obtain rfl := retE h
     exact fin (ok X) 6 [.b false] (pA k12 pT) (by kernel_rfl)

theorem zl1 : ∀ n : Nat, (∀ (a0 : z07) (r : Bool), z66 n a0 = some r → Cv Tryz.prog (GX X) 102 [.agg (bs (z0w a0))] (z6w r))
 | 0 => (fun _ _ h => by rw [z66] at h; cases h)
 | n + 1 => by
  have ih := zl1 n
  exact zwh ih

theorem zf5 {a0 : z07} {r : Bool} (h : zhg a0 = some r) : Cv Tryz.prog (GX X) 102 [.agg (bs (z0w a0))] (z6w r) := by
 obtain ⟨n, hn⟩ := unfE h
 exact (zl1 n) _ _ hn

theorem zdq {a0 : z2b} {r : Bool} (h : zfm a0 = some r) : Cv Tryz.prog (GX X) 103 [.agg (bs (z7v a0))] (zb2 r) := by
 refine Cs.toV (?_ : Cs Tryz.prog (GX X) 103 [.agg (bs (z7v a0))] [] (zb2 r) (zw7 r)) (by kernel_rfl)
 refine fnT (cx := cx X) Tryz.f103 Tryz.call103 Tryz.func103 (by kernel_rfl) ?_
 unfold zfm at h
 rcases iteE h with ⟨k1, h⟩ | ⟨k1, h⟩
 ·rcases iteE h with ⟨k2, h⟩ | ⟨k2, h⟩
  ·obtain ⟨v1, k3, h⟩ := z06 h
   rcases iteE h with ⟨k4, h⟩ | ⟨k4, h⟩
   ·obtain ⟨v2, k5, h⟩ := z06 h
    obtain rfl := retE h
    exact fin (ok X) 5 (bT 7 (.c (z6w v1) :: bT 4 [.c (z6w v2), .b true])) (pR 4 k1 (pR 3 k2 (pA (zf5 (X := X) k3) (pA k2 (pR 3 k4 (pA (zf5 (X := X) k5) (pA k4 pT))))))) (by kernel_rfl)
   ·obtain rfl := retE h
    exact fin (ok X) 5 (bT 7 (.c (z6w v1) :: .b true :: bF 4 [])) (pR 4 k1 (pR 3 k2 (pA (zf5 (X := X) k3) (pA k2 (pR 4 k4 pT))))) (by kernel_rfl)
  ·obtain rfl := retE h
   exact fin (ok X) 5 (bT 4 (bF 8 [])) (pR 4 k1 (pR 4 k2 (pR 4 ff pT))) (by kernel_rfl)
 ·obtain rfl := retE h
  exact fin (ok X) 5 (bF 12 []) (pR 4 k1 (pR 8 ff pT)) (by kernel_rfl)

theorem zsm {n : Nat} (ih_r02_stmts : ∀ (a0 : (List z03)) (r : Bool), z7w n a0 = some r → Cv Tryz.prog (GX X) 77 [xL (List.map z0d a0)] (z74 r)) (a0 : (List z03)) (r : Bool) (h : z7w (n + 1) a0 = some r) : Cv Tryz.prog (GX X) 77 [xL (List.map z0d a0)] (z74 r) := by
 refine Cs.toV (?_ : Cs Tryz.prog (GX X) 77 [xL (List.map z0d a0)] [] (z74 r) (zm5 r)) (by kernel_rfl)
 refine fnT (cx := cx X) Tryz.f77 Tryz.call77 Tryz.func77 (by kernel_rfl) ?_
 rw [z7w] at h
 refine adv (ok X) 5 [] pT (by kernel_rfl) ?_
 refine lp (ok X) (zb3 (z7w n) a0) (fun (x1 : Int) => ⟨127, 0, [(0, [xL (List.map z0d a0)]), (3, [xI x1])], []⟩) (fun (j1 : Unit) => ⟨127, 0, [], []⟩) zij 0 (fun _ => ⟨_, _, _, _, rfl⟩) h (by kernel_rfl) (fun x1 o h => ?_) (fun r' h => ?_) (fun j1 h => ?_)
 ·unfold zb3 at h
  refine adv (ok X) 3 [.i (a0.length : Int)] (pA (lm z0d a0) pT) (by kernel_rfl) ?_
  rcases iteE h with ⟨k1, h⟩ | ⟨k1, h⟩
  ·refine adv (ok X) 3 [.b true] (pA k1 pT) (by kernel_rfl) ?_
   refine jr (ok X) 1 (fun (j2 : Unit) => ⟨127, 0, [(0, [xL (List.map z0d a0)]), (3, [xI x1])], []⟩) zij (fun _ => ⟨_, _, _, _, rfl⟩) h (fun o h => ?_) (fun r' h => ?_) (fun j2 h => ?_)
   ·obtain ⟨v1, k2, h⟩ := z06 h
    refine adv (ok X) 11 [.e (z96 v1)] (pA (ixr z8p k2) pT) (by kernel_rfl) ?_
    rcases iteE h with ⟨k3, h⟩ | ⟨k3, h⟩
    ·refine adv (ok X) 1 [.b true] (pA k3 pT) (by kernel_rfl) ?_
     obtain ⟨v2, k4, h⟩ := z06 h
     rcases iteE h with ⟨k5, h⟩ | ⟨k5, h⟩
     ·obtain ⟨v3, k6, h⟩ := z06 h
      refine adv (ok X) 4 (.c (z1v v2) :: bT 3 [.c (z6w v3), .b true]) (pA (z23 (X := X) k4) (pR 3 k5 (pA (zf5 (X := X) k6) (pA k5 pT)))) (by kernel_rfl) ?_
      rcases iteE h with ⟨k7, h⟩ | ⟨k7, h⟩
      ·obtain rfl := retE h
       exact fin (ok X) 4 [.b true] (pA k7 pT) (by kernel_rfl)
      ·obtain rfl := retE h
       exact fin (ok X) 3 [.b false] (pA k7 pT) (by kernel_rfl)
     ·obtain rfl := retE h
      exact fin (ok X) 8 (.c (z1v v2) :: bF 4 [.b true]) (pA (z23 (X := X) k4) (pR 4 k5 (pA (notF ff) pT))) (by kernel_rfl)
    ·refine adv (ok X) 3 [.b false] (pA k3 pT) (by kernel_rfl) ?_
     rcases iteE h with ⟨k8, h⟩ | ⟨k8, h⟩
     ·refine adv (ok X) 1 [.b true] (pA k8 pT) (by kernel_rfl) ?_
      obtain ⟨v4, k9, h⟩ := z06 h
      rcases iteE h with ⟨k10, h⟩ | ⟨k10, h⟩
      ·obtain ⟨v5, k11, h⟩ := z06 h
       rcases iteE h with ⟨k12, h⟩ | ⟨k12, h⟩
       ·obtain ⟨v6, k13, h⟩ := z06 h
        refine adv (ok X) 4 (.c (zb2 v4) :: bT 3 (.c (z74 v5) :: bT 4 [.c (z74 v6), .b true])) (pA (zdq (X := X) k9) (pR 3 k10 (pA (ih_r02_stmts _ _ k11) (pA k10 (pR 3 k12 (pA (ih_r02_stmts _ _ k13) (pA k12 pT))))))) (by kernel_rfl) ?_
        rcases iteE h with ⟨k14, h⟩ | ⟨k14, h⟩
        ·obtain rfl := retE h
         exact fin (ok X) 4 [.b true] (pA k14 pT) (by kernel_rfl)
        ·obtain rfl := retE h
         exact fin (ok X) 3 [.b false] (pA k14 pT) (by kernel_rfl)
       ·obtain rfl := retE h
        exact fin (ok X) 8 (.c (zb2 v4) :: bT 3 (.c (z74 v5) :: .b true :: bF 4 [.b true])) (pA (zdq (X := X) k9) (pR 3 k10 (pA (ih_r02_stmts _ _ k11) (pA k10 (pR 4 k12 (pA (notF ff) pT)))))) (by kernel_rfl)
      ·obtain rfl := retE h
       exact fin (ok X) 8 (.c (zb2 v4) :: bF 8 [.b true]) (pA (zdq (X := X) k9) (pR 4 k10 (pR 4 ff (pA (notF ff) pT)))) (by kernel_rfl)
     ·refine adv (ok X) 3 [.b false] (pA k8 pT) (by kernel_rfl) ?_
      rcases iteE h with ⟨k15, h⟩ | ⟨k15, h⟩
      ·refine adv (ok X) 1 [.b true] (pA k15 pT) (by kernel_rfl) ?_
       obtain ⟨v7, k16, h⟩ := z06 h
       rcases iteE h with ⟨k17, h⟩ | ⟨k17, h⟩
       ·obtain ⟨v8, k18, h⟩ := z06 h
        refine adv (ok X) 4 (.c (zb2 v7) :: bT 3 [.c (z74 v8), .b true]) (pA (zdq (X := X) k16) (pR 3 k17 (pA (ih_r02_stmts _ _ k18) (pA k17 pT)))) (by kernel_rfl) ?_
        rcases iteE h with ⟨k19, h⟩ | ⟨k19, h⟩
        ·obtain rfl := retE h
         exact fin (ok X) 4 [.b true] (pA k19 pT) (by kernel_rfl)
        ·obtain rfl := retE h
         exact fin (ok X) 3 [.b false] (pA k19 pT) (by kernel_rfl)
       ·obtain rfl := retE h
        exact fin (ok X) 8 (.c (zb2 v7) :: bF 4 [.b true]) (pA (zdq (X := X) k16) (pR 4 k17 (pA (notF ff) pT))) (by kernel_rfl)
      ·refine adv (ok X) 3 [.b false] (pA k15 pT) (by kernel_rfl) ?_
       rcases iteE h with ⟨k20, h⟩ | ⟨k20, h⟩
       ·refine adv (ok X) 1 [.b true] (pA k20 pT) (by kernel_rfl) ?_
        obtain ⟨v9, k21, h⟩ := z06 h
        rcases iteE h with ⟨k22, h⟩ | ⟨k22, h⟩
        ·obtain ⟨v10, k23, h⟩ := z06 h
         rcases iteE h with ⟨k24, h⟩ | ⟨k24, h⟩
         ·obtain ⟨v11, k25, h⟩ := z06 h
          refine adv (ok X) 4 (.c (z1v v9) :: bT 3 (.c (z1v v10) :: bT 4 [.c (z6w v11), .b true])) (pA (z23 (X := X) k21) (pR 3 k22 (pA (z23 (X := X) k23) (pA k22 (pR 3 k24 (pA (zf5 (X := X) k25) (pA k24 pT))))))) (by kernel_rfl) ?_
          rcases iteE h with ⟨k26, h⟩ | ⟨k26, h⟩
          ·obtain rfl := retE h
           exact fin (ok X) 4 [.b true] (pA k26 pT) (by kernel_rfl)
          ·obtain rfl := retE h
           exact fin (ok X) 3 [.b false] (pA k26 pT) (by kernel_rfl)
         ·obtain rfl := retE h
          exact fin (ok X) 8 (.c (z1v v9) :: bT 3 (.c (z1v v10) :: .b true :: bF 4 [.b true])) (pA (z23 (X := X) k21) (pR 3 k22 (pA (z23 (X := X) k23) (pA k22 (pR 4 k24 (pA (notF ff) pT)))))) (by kernel_rfl)
        ·obtain rfl := retE h
         exact fin (ok X) 8 (.c (z1v v9) :: bF 8 [.b true]) (pA (z23 (X := X) k21) (pR 4 k22 (pR 4 ff (pA (notF ff) pT)))) (by kernel_rfl)
       ·refine adv (ok X) 3 [.b false] (pA k20 pT) (by kernel_rfl) ?_
        rcases iteE h with ⟨k27, h⟩ | ⟨k27, h⟩
        ·refine adv (ok X) 2 [.b true] (pA k27 pT) (by kernel_rfl) ?_
         refine jn (ok X) 1 (fun (j3 : Bool) => ⟨127, 0, [(0, [xL (List.map z0d a0)]), (3, [xI x1]), (4, [xP 0 0]), (5, [xB j3])], [oB 50 (bs (z96 v1))]⟩) h (fun j3 h => ?_) (fun j3 h => ?_)
         ·obtain ⟨v12, k28, h⟩ := z06 h
          rcases iteE h with ⟨k29, h⟩ | ⟨k29, h⟩
          ·obtain rfl := retE h
           exact fin (ok X) 1 (.c (z1v v12) :: bT 3 [.i (v1.Arms.length : Int), .b true, .b true]) (pA (z23 (X := X) k28) (pR 3 k29 (pA (lm z52 v1.Arms) (pA k29 (pA k29 pT))))) (by kernel_rfl)
          ·obtain rfl := retE h
           exact fin (ok X) 1 (.c (z1v v12) :: bF 5 []) (pA (z23 (X := X) k28) (pR 5 k29 pT)) (by kernel_rfl)
         ·refine adv (ok X) 2 [] pT (by kernel_rfl) ?_
          refine lp (ok X) (z9j (z7w n) v1) (fun (x4 : (Bool × Int)) => ⟨127, 0, [(0, [xL (List.map z0d a0)]), (3, [xI x1]), (4, [xP 0 0]), (5, [xB x4.1]), (6, [xI x4.2])], [oB 50 (bs (z96 v1))]⟩) (fun (j4 : Bool) => ⟨127, 0, [(0, [xL (List.map z0d a0)]), (3, [xI x1]), (5, [xB j4])], []⟩) zij (j3, 0) (fun _ => ⟨_, _, _, _, rfl⟩) h (by kernel_rfl) (fun x4 o h => ?_) (fun r' h => ?_) (fun j4 h => ?_)
          ·unfold z9j at h
           refine adv (ok X) 3 [.i (v1.Arms.length : Int)] (pA (lm z52 v1.Arms) pT) (by kernel_rfl) ?_
           rcases iteE h with ⟨k30, h⟩ | ⟨k30, h⟩
           ·refine adv (ok X) 3 [.b true] (pA k30 pT) (by kernel_rfl) ?_
            refine jn (ok X) 1 (fun (j5 : Bool) => ⟨127, 0, [(0, [xL (List.map z0d a0)]), (3, [xI x1]), (4, [xP 0 0]), (5, [xB j5]), (6, [xI x4.2])], [oB 50 (bs (z96 v1))]⟩) h (fun j5 h => ?_) (fun j5 h => ?_)
            ·rcases iteE h with ⟨k31, h⟩ | ⟨k31, h⟩
             ·obtain ⟨v13, k32, h⟩ := z06 h
              obtain ⟨v14, k33, h⟩ := z06 h
              rcases iteE h with ⟨k34, h⟩ | ⟨k34, h⟩
              ·obtain ⟨v15, k35, h⟩ := z06 h
               obtain ⟨v16, k36, h⟩ := z06 h
               rcases iteE h with ⟨k37, h⟩ | ⟨k37, h⟩
               ·obtain ⟨v17, k38, h⟩ := z06 h
                obtain ⟨v18, k39, h⟩ := z06 h
                obtain rfl := retE h
                exact fin (ok X) 3 (bT 4 (.e (z8j v13) :: bT 3 (.c (z1v v14) :: bT 5 (.e (z8j v15) :: bT 3 (.c (z1v v16) :: bT 5 (.e (z8j v17) :: bT 3 [.c (z74 v18), .b true])))))) (pR 4 k31 (pA (ixr z4x k32) (pR 3 k31 (pA (z23 (X := X) k33) (pA k31 (pR 4 k34 (pA (ixr z4x k35) (pR 3 k34 (pA (z23 (X := X) k36) (pA k34 (pR 4 k37 (pA (ixr z4x k38) (pR 3 k37 (pA (ih_r02_stmts _ _ k39) (pA k37 pT))))))))))))))) (by kernel_rfl)
               ·obtain rfl := retE h
                exact fin (ok X) 3 (bT 4 (.e (z8j v13) :: bT 3 (.c (z1v v14) :: bT 5 (.e (z8j v15) :: bT 3 (.c (z1v v16) :: .b true :: bF 8 []))))) (pR 4 k31 (pA (ixr z4x k32) (pR 3 k31 (pA (z23 (X := X) k33) (pA k31 (pR 4 k34 (pA (ixr z4x k35) (pR 3 k34 (pA (z23 (X := X) k36) (pA k34 (pR 8 k37 pT))))))))))) (by kernel_rfl)
              ·obtain rfl := retE h
               exact fin (ok X) 3 (bT 4 (.e (z8j v13) :: bT 3 (.c (z1v v14) :: .b true :: bF 16 []))) (pR 4 k31 (pA (ixr z4x k32) (pR 3 k31 (pA (z23 (X := X) k33) (pA k31 (pR 8 k34 (pR 8 ff pT))))))) (by kernel_rfl)
             ·obtain rfl := retE h
              exact fin (ok X) 3 (bF 24 []) (pR 8 k31 (pR 16 ff pT)) (by kernel_rfl)
            ·obtain rfl := retE h
             exact fin (ok X) 1 [] pT (by kernel_rfl)
           ·obtain rfl := retE h
            exact fin (ok X) 2 [.b false] (pA k30 pT) (by kernel_rfl)
          ·cases h
          ·rcases iteE h with ⟨k40, h⟩ | ⟨k40, h⟩
           ·obtain rfl := retE h
            exact fin (ok X) 7 [.b true] (pA k40 pT) (by kernel_rfl)
           ·obtain rfl := retE h
            exact fin (ok X) 6 [.b false] (pA k40 pT) (by kernel_rfl)
        ·refine adv (ok X) 3 [.b false] (pA k27 pT) (by kernel_rfl) ?_
         rcases iteE h with ⟨k41, h⟩ | ⟨k41, h⟩
         ·obtain ⟨v19, k42, h⟩ := z06 h
          refine adv (ok X) 5 [.b true, .c (zb2 v19)] (pA k41 (pA (zdq (X := X) k42) pT)) (by kernel_rfl) ?_
          rcases iteE h with ⟨k43, h⟩ | ⟨k43, h⟩
          ·obtain rfl := retE h
           exact fin (ok X) 4 [.b true] (pA k43 pT) (by kernel_rfl)
          ·obtain rfl := retE h
           exact fin (ok X) 3 [.b false] (pA k43 pT) (by kernel_rfl)
         ·refine adv (ok X) 3 [.b false] (pA k41 pT) (by kernel_rfl) ?_
          rcases iteE h with ⟨k44, h⟩ | ⟨k44, h⟩
          ·obtain ⟨v20, k45, h⟩ := z06 h
           refine adv (ok X) 5 [.b true, .c (z1v v20)] (pA k44 (pA (z23 (X := X) k45) pT)) (by kernel_rfl) ?_
           rcases iteE h with ⟨k46, h⟩ | ⟨k46, h⟩
           ·obtain rfl := retE h
            exact fin (ok X) 4 [.b true] (pA k46 pT) (by kernel_rfl)
           ·obtain rfl := retE h
            exact fin (ok X) 3 [.b false] (pA k46 pT) (by kernel_rfl)
          ·obtain rfl := retE h
           exact fin (ok X) 9 [.b false, .b true] (pA k44 (pA (notF ff) pT)) (by kernel_rfl)
   ·obtain rfl := retE h
    kernel_rfl
   ·obtain rfl := retE h
    exact fin (ok X) 1 [] pT (by kernel_rfl)
  ·obtain rfl := retE h
   exact fin (ok X) 2 [.b false] (pA k1 pT) (by kernel_rfl)
 ·obtain rfl := retE h
  kernel_rfl
 ·obtain rfl := retE h
  exact fin (ok X) 3 [] pT (by kernel_rfl)

theorem zjl : ∀ n : Nat, (∀ (a0 : (List z03)) (r : Bool), z7w n a0 = some r → Cv Tryz.prog (GX X) 77 [xL (List.map z0d a0)] (z74 r))
 | 0 => (fun _ _ h => by rw [z7w] at h; cases h)
 | n + 1 => by
  have ih := zjl n
  exact zsm ih

theorem zsn {a0 : (List z03)} {r : Bool} (h : zm6 a0 = some r) : Cv Tryz.prog (GX X) 77 [xL (List.map z0d a0)] (z74 r) := by
 obtain ⟨n, hn⟩ := unfE h
 exact (zjl n) _ _ hn

theorem zso {a0 : z0s} {r : Bool} (h : zgk a0 = some r) : Cv Tryz.prog (GX X) 44 [.agg (bs (z15 a0))] (zfn r) := by
 refine Cs.toV (?_ : Cs Tryz.prog (GX X) 44 [.agg (bs (z15 a0))] [] (zfn r) (zm7 r)) (by kernel_rfl)
 refine fnT (cx := cx X) Tryz.f44 Tryz.call44 Tryz.func44 (by kernel_rfl) ?_
 unfold zgk at h
 refine adv (ok X) 5 [] pT (by kernel_rfl) ?_
 refine lp (ok X) (zb5 a0) (fun (x1 : Int) => ⟨163, 0, [(1, [xP 0 0]), (3, [xI x1])], [oB 34 (bs (z15 a0))]⟩) (fun (j1 : Unit) => ⟨163, 0, [(1, [xP 0 0])], [oB 34 (bs (z15 a0))]⟩) zca 0 (fun _ => ⟨_, _, _, _, rfl⟩) h (by kernel_rfl) (fun x1 o h => ?_) (fun r' h => ?_) (fun j1 h => ?_)
 ·unfold zb5 at h
  refine adv (ok X) 3 [.i (a0.Chans.length : Int)] (pA (lm z3d a0.Chans) pT) (by kernel_rfl) ?_
  rcases iteE h with ⟨k1, h⟩ | ⟨k1, h⟩
  ·obtain ⟨v1, k2, h⟩ := z06 h
   refine adv (ok X) 8 [.b true, .e (z3d v1)] (pA k1 (pA (ixm z3d k2) pT)) (by kernel_rfl) ?_
   refine jn (ok X) 1 (fun (j2 : Bool) => ⟨163, 0, [(1, [xP 0 0]), (3, [xI x1]), (4, [xP 1 0]), (61, [xB j2])], [oB 34 (bs (z15 a0)), oB 90 (bs (z3d v1))]⟩) h (fun j2 h => ?_) (fun j2 h => ?_)
   ·obtain ⟨v2, k3, h⟩ := z06 h
    rcases iteE h with ⟨k4, h⟩ | ⟨k4, h⟩
    ·obtain rfl := retE h
     exact fin (ok X) 1 (.c (z1v v2) :: bT 28 []) (pA (z23 (X := X) k3) (pR 5 k4 (pR 23 tt pT))) (by kernel_rfl)
    ·obtain ⟨v3, k5, h⟩ := z06 h
     rcases iteE h with ⟨k6, h⟩ | ⟨k6, h⟩
     ·obtain rfl := retE h
      exact fin (ok X) 1 (.c (z1v v2) :: bF 3 (.c (z1v v3) :: .b false :: .b false :: bT 23 [])) (pA (z23 (X := X) k3) (pR 3 k4 (pA (z23 (X := X) k5) (pA k4 (pA k4 (pR 5 k6 (pR 18 tt pT))))))) (by kernel_rfl)
     ·obtain ⟨v4, k7, h⟩ := z06 h
      rcases iteE h with ⟨k8, h⟩ | ⟨k8, h⟩
      ·obtain rfl := retE h
       exact fin (ok X) 1 (.c (z1v v2) :: bF 3 (.c (z1v v3) :: bF 5 (.c (z1v v4) :: .b false :: .b false :: bT 18 []))) (pA (z23 (X := X) k3) (pR 3 k4 (pA (z23 (X := X) k5) (pA k4 (pA k4 (pR 3 k6 (pA (z23 (X := X) k7) (pA k6 (pA k6 (pR 4 k8 (pR 14 tt pT))))))))))) (by kernel_rfl)
      ·rcases iteE h with ⟨k9, h⟩ | ⟨k9, h⟩
       ·obtain rfl := retE h
        exact fin (ok X) 1 (.c (z1v v2) :: bF 3 (.c (z1v v3) :: bF 5 (.c (z1v v4) :: bF 6 (bT 14 [])))) (pA (z23 (X := X) k3) (pR 3 k4 (pA (z23 (X := X) k5) (pA k4 (pA k4 (pR 3 k6 (pA (z23 (X := X) k7) (pA k6 (pA k6 (pR 4 k8 (pR 4 k9 (pR 10 tt pT)))))))))))) (by kernel_rfl)
       ·rcases iteE h with ⟨k10, h⟩ | ⟨k10, h⟩
        ·obtain rfl := retE h
         exact fin (ok X) 1 (.c (z1v v2) :: bF 3 (.c (z1v v3) :: bF 5 (.c (z1v v4) :: bF 10 (bT 10 [])))) (pA (z23 (X := X) k3) (pR 3 k4 (pA (z23 (X := X) k5) (pA k4 (pA k4 (pR 3 k6 (pA (z23 (X := X) k7) (pA k6 (pA k6 (pR 4 k8 (pR 4 k9 (pR 5 k10 (pR 5 tt pT))))))))))))) (by kernel_rfl)
        ·obtain ⟨v5, k11, h⟩ := z06 h
         rcases iteE h with ⟨k12, h⟩ | ⟨k12, h⟩
         ·obtain rfl := retE h
          exact fin (ok X) 1 (.c (z1v v2) :: bF 3 (.c (z1v v3) :: bF 5 (.c (z1v v4) :: bF 13 (.c (z6s v5) :: .b false :: .b false :: bT 5 [])))) (pA (z23 (X := X) k3) (pR 3 k4 (pA (z23 (X := X) k5) (pA k4 (pA k4 (pR 3 k6 (pA (z23 (X := X) k7) (pA k6 (pA k6 (pR 4 k8 (pR 4 k9 (pR 3 k10 (pA (z8a (X := X) k11) (pA k10 (pA k10 (pR 5 k12 pT)))))))))))))))) (by kernel_rfl)
         ·obtain rfl := retE h
          exact fin (ok X) 1 (.c (z1v v2) :: bF 3 (.c (z1v v3) :: bF 5 (.c (z1v v4) :: bF 13 (.c (z6s v5) :: bF 5 [.i (v1.Tags.length : Int), .b false, .b false])))) (pA (z23 (X := X) k3) (pR 3 k4 (pA (z23 (X := X) k5) (pA k4 (pA k4 (pR 3 k6 (pA (z23 (X := X) k7) (pA k6 (pA k6 (pR 4 k8 (pR 4 k9 (pR 3 k10 (pA (z8a (X := X) k11) (pA k10 (pA k10 (pR 3 k12 (pA (lm z1j v1.Tags) (pA k12 (pA k12 pT))))))))))))))))))) (by kernel_rfl)
   ·rcases iteE h with ⟨k13, h⟩ | ⟨k13, h⟩
    ·obtain rfl := retE h
     exact fin (ok X) 4 [.b true] (pA k13 pT) (by kernel_rfl)
    ·refine adv (ok X) 4 [.b false] (pA k13 pT) (by kernel_rfl) ?_
     refine lp (ok X) (zb4 v1) (fun (x3 : Int) => ⟨163, 0, [(1, [xP 0 0]), (3, [xI x1]), (4, [xP 1 0]), (5, [xI x3])], [oB 34 (bs (z15 a0)), oB 90 (bs (z3d v1))]⟩) (fun (j3 : Unit) => ⟨163, 0, [(1, [xP 0 0]), (3, [xI x1])], [oB 34 (bs (z15 a0))]⟩) zca 0 (fun _ => ⟨_, _, _, _, rfl⟩) h (by kernel_rfl) (fun x3 o h => ?_) (fun r' h => ?_) (fun j3 h => ?_)
     ·unfold zb4 at h
      refine adv (ok X) 3 [.i (v1.Tags.length : Int)] (pA (lm z1j v1.Tags) pT) (by kernel_rfl) ?_
      rcases iteE h with ⟨k14, h⟩ | ⟨k14, h⟩
      ·obtain ⟨v6, k15, h⟩ := z06 h
       obtain ⟨v7, k16, h⟩ := z06 h
       refine adv (ok X) 6 [.b true, .e [.str v6], .c (z1v v7)] (pA k14 (pA (ixm z1j k15) (pA (z23 (X := X) k16) pT))) (by kernel_rfl) ?_
       rcases iteE h with ⟨k17, h⟩ | ⟨k17, h⟩
       ·obtain rfl := retE h
        exact fin (ok X) 4 [.b true] (pA k17 pT) (by kernel_rfl)
       ·obtain rfl := retE h
        exact fin (ok X) 4 [.b false] (pA k17 pT) (by kernel_rfl)
      ·obtain rfl := retE h
       exact fin (ok X) 2 [.b false] (pA k14 pT) (by kernel_rfl)
     ·obtain rfl := retE h
      kernel_rfl
     ·obtain rfl := retE h
      exact fin (ok X) 2 [] pT (by kernel_rfl)
  ·obtain rfl := retE h
   exact fin (ok X) 2 [.b false] (pA k1 pT) (by kernel_rfl)
 ·obtain rfl := retE h
  kernel_rfl
 ·refine adv (ok X) 3 [] pT (by kernel_rfl) ?_
  refine lp (ok X) (zb7 a0) (fun (x4 : Int) => ⟨163, 0, [(1, [xP 0 0]), (6, [xI x4])], [oB 34 (bs (z15 a0))]⟩) (fun (j4 : Unit) => ⟨163, 0, [(1, [xP 0 0])], [oB 34 (bs (z15 a0))]⟩) zca 0 (fun _ => ⟨_, _, _, _, rfl⟩) h (by kernel_rfl) (fun x4 o h => ?_) (fun r' h => ?_) (fun j4 h => ?_)
  ·unfold zb7 at h
   refine adv (ok X) 3 [.i (a0.Rules.length : Int)] (pA (lm z2s a0.Rules) pT) (by kernel_rfl) ?_
   rcases iteE h with ⟨k18, h⟩ | ⟨k18, h⟩
   ·obtain ⟨v8, k19, h⟩ := z06 h
    obtain ⟨v9, k20, h⟩ := z06 h
    refine adv (ok X) 7 [.b true, .e (z2s v8), .c (z1v v9)] (pA k18 (pA (ixm z2s k19) (pA (z23 (X := X) k20) pT))) (by kernel_rfl) ?_
    rcases iteE h with ⟨k21, h⟩ | ⟨k21, h⟩
    ·obtain rfl := retE h
     exact fin (ok X) 4 [.b true] (pA k21 pT) (by kernel_rfl)
    ·refine adv (ok X) 4 [.b false] (pA k21 pT) (by kernel_rfl) ?_
     refine lp (ok X) (zb6 a0 x4) (fun (x5 : Int) => ⟨163, 0, [(1, [xP 0 0]), (6, [xI x4]), (7, [xI x5])], [oB 34 (bs (z15 a0))]⟩) (fun (j5 : Unit) => ⟨163, 0, [(1, [xP 0 0]), (6, [xI x4])], [oB 34 (bs (z15 a0))]⟩) zca 0 (fun _ => ⟨_, _, _, _, rfl⟩) h (by kernel_rfl) (fun x5 o h => ?_) (fun r' h => ?_) (fun j5 h => ?_)
     ·unfold zb6 at h
      obtain ⟨v10, k22, h⟩ := z06 h
      refine adv (ok X) 3 [.e (z2s v10), .i (v10.Moves.length : Int)] (pA (ixm z2s k22) (pA (lm z5y v10.Moves) pT)) (by kernel_rfl) ?_
      rcases iteE h with ⟨k23, h⟩ | ⟨k23, h⟩
      ·obtain ⟨v11, k24, h⟩ := z06 h
       obtain ⟨v12, k25, h⟩ := z06 h
       refine adv (ok X) 7 [.b true, .e (z2s v11), .e (z5y v12)] (pA k23 (pA (ixm z2s k24) (pA (ixm z5y k25) pT))) (by kernel_rfl) ?_
       refine jn (ok X) 1 (fun (j6 : Bool) => ⟨163, 0, [(1, [xP 0 0]), (6, [xI x4]), (7, [xI x5]), (126, [xB j6])], [oB 34 (bs (z15 a0))]⟩) h (fun j6 h => ?_) (fun j6 h => ?_)
       ·obtain ⟨v13, k26, h⟩ := z06 h
        rcases iteE h with ⟨k27, h⟩ | ⟨k27, h⟩
        ·obtain rfl := retE h
         exact fin (ok X) 1 (.c (z6s v13) :: bT 10 []) (pA (z8a (X := X) k26) (pR 5 k27 (pR 5 tt pT))) (by kernel_rfl)
        ·obtain ⟨v14, k28, h⟩ := z06 h
         rcases iteE h with ⟨k29, h⟩ | ⟨k29, h⟩
         ·obtain rfl := retE h
          exact fin (ok X) 1 (.c (z6s v13) :: bF 3 (.c (z6s v14) :: .b false :: .b false :: bT 5 [])) (pA (z8a (X := X) k26) (pR 3 k27 (pA (z8a (X := X) k28) (pA k27 (pA k27 (pR 5 k29 pT)))))) (by kernel_rfl)
         ·obtain ⟨v15, k30, h⟩ := z06 h
          obtain rfl := retE h
          exact fin (ok X) 1 (.c (z6s v13) :: bF 3 (.c (z6s v14) :: bF 5 [.c (z1v v15), .b false, .b false])) (pA (z8a (X := X) k26) (pR 3 k27 (pA (z8a (X := X) k28) (pA k27 (pA k27 (pR 3 k29 (pA (z23 (X := X) k30) (pA k29 (pA k29 pT))))))))) (by kernel_rfl)
       ·rcases iteE h with ⟨k31, h⟩ | ⟨k31, h⟩
        ·obtain rfl := retE h
         exact fin (ok X) 4 [.b true] (pA k31 pT) (by kernel_rfl)
        ·obtain rfl := retE h
         exact fin (ok X) 4 [.b false] (pA k31 pT) (by kernel_rfl)
      ·obtain rfl := retE h
       exact fin (ok X) 2 [.b false] (pA k23 pT) (by kernel_rfl)
     ·obtain rfl := retE h
      kernel_rfl
     ·obtain rfl := retE h
      exact fin (ok X) 2 [] pT (by kernel_rfl)
   ·obtain rfl := retE h
    exact fin (ok X) 2 [.b false] (pA k18 pT) (by kernel_rfl)
  ·obtain rfl := retE h
   kernel_rfl
  ·refine adv (ok X) 3 [] pT (by kernel_rfl) ?_
   refine lp (ok X) (zb9 a0) (fun (x7 : Int) => ⟨163, 0, [(1, [xP 0 0]), (9, [xI x7])], [oB 34 (bs (z15 a0))]⟩) (fun (j7 : Unit) => ⟨163, 0, [], []⟩) zca 0 (fun _ => ⟨_, _, _, _, rfl⟩) h (by kernel_rfl) (fun x7 o h => ?_) (fun r' h => ?_) (fun j7 h => ?_)
   ·unfold zb9 at h
    refine adv (ok X) 3 [.i (a0.Procs.length : Int)] (pA (lm z3y a0.Procs) pT) (by kernel_rfl) ?_
    rcases iteE h with ⟨k32, h⟩ | ⟨k32, h⟩
    ·obtain ⟨v16, k33, h⟩ := z06 h
     refine adv (ok X) 8 [.b true, .e (z3y v16)] (pA k32 (pA (ixm z3y k33) pT)) (by kernel_rfl) ?_
     refine jn (ok X) 1 (fun (j8 : Bool) => ⟨163, 0, [(1, [xP 0 0]), (9, [xI x7]), (10, [xP 1 0]), (148, [xB j8])], [oB 34 (bs (z15 a0)), oB 53 (bs (z3y v16))]⟩) h (fun j8 h => ?_) (fun j8 h => ?_)
     ·obtain ⟨v17, k34, h⟩ := z06 h
      rcases iteE h with ⟨k35, h⟩ | ⟨k35, h⟩
      ·obtain rfl := retE h
       exact fin (ok X) 1 (.c (z1v v17) :: bT 5 []) (pA (z23 (X := X) k34) (pR 5 k35 pT)) (by kernel_rfl)
      ·obtain ⟨v18, k36, h⟩ := z06 h
       obtain rfl := retE h
       exact fin (ok X) 1 (.c (z1v v17) :: bF 3 [.c (z74 v18), .b false, .b false]) (pA (z23 (X := X) k34) (pR 3 k35 (pA (zsn (X := X) k36) (pA k35 (pA k35 pT))))) (by kernel_rfl)
     ·rcases iteE h with ⟨k37, h⟩ | ⟨k37, h⟩
      ·obtain rfl := retE h
       exact fin (ok X) 4 [.b true] (pA k37 pT) (by kernel_rfl)
      ·refine adv (ok X) 4 [.b false] (pA k37 pT) (by kernel_rfl) ?_
       refine lp (ok X) (zb8 v16) (fun (x9 : Int) => ⟨163, 0, [(1, [xP 0 0]), (9, [xI x7]), (10, [xP 1 0]), (11, [xI x9])], [oB 34 (bs (z15 a0)), oB 53 (bs (z3y v16))]⟩) (fun (j9 : Unit) => ⟨163, 0, [(1, [xP 0 0]), (9, [xI x7])], [oB 34 (bs (z15 a0))]⟩) zca 0 (fun _ => ⟨_, _, _, _, rfl⟩) h (by kernel_rfl) (fun x9 o h => ?_) (fun r' h => ?_) (fun j9 h => ?_)
       ·unfold zb8 at h
        refine adv (ok X) 3 [.i (v16.Vars.length : Int)] (pA (lm z1j v16.Vars) pT) (by kernel_rfl) ?_
        rcases iteE h with ⟨k38, h⟩ | ⟨k38, h⟩
        ·obtain ⟨v19, k39, h⟩ := z06 h
         obtain ⟨v20, k40, h⟩ := z06 h
         refine adv (ok X) 6 [.b true, .e [.str v19], .c (z1v v20)] (pA k38 (pA (ixm z1j k39) (pA (z23 (X := X) k40) pT))) (by kernel_rfl) ?_
         rcases iteE h with ⟨k41, h⟩ | ⟨k41, h⟩
         ·obtain rfl := retE h
          exact fin (ok X) 4 [.b true] (pA k41 pT) (by kernel_rfl)
         ·obtain rfl := retE h
          exact fin (ok X) 4 [.b false] (pA k41 pT) (by kernel_rfl)
        ·obtain rfl := retE h
         exact fin (ok X) 2 [.b false] (pA k38 pT) (by kernel_rfl)
       ·obtain rfl := retE h
        kernel_rfl
       ·obtain rfl := retE h
        exact fin (ok X) 2 [] pT (by kernel_rfl)
    ·obtain rfl := retE h
     exact fin (ok X) 2 [.b false] (pA k32 pT) (by kernel_rfl)
   ·obtain rfl := retE h
    kernel_rfl
   ·obtain rfl := retE h
    exact fin (ok X) 3 [] pT (by kernel_rfl)

theorem zo8 {a0 : z07} {a1 : z07} {r : Bool} (h : zhh a0 a1 = some r) : Cv Tryz.prog (GX X) 105 [.agg (bs (z0w a0)), .agg (bs (z0w a1))] (zhi r) := by
 refine Cs.toV (?_ : Cs Tryz.prog (GX X) 105 [.agg (bs (z0w a0)), .agg (bs (z0w a1))] [] (zhi r) (zw8 r)) (by kernel_rfl)
 refine fnT (cx := cx X) Tryz.f105 Tryz.call105 Tryz.func105 (by kernel_rfl) ?_
 unfold zhh at h
 rcases iteE h with ⟨k1, h⟩ | ⟨k1, h⟩
 ·rcases iteE h with ⟨k2, h⟩ | ⟨k2, h⟩
  ·obtain rfl := retE h
   exact fin (ok X) 5 (bT 10 []) (pR 4 k1 (pR 3 k2 (pA k1 (pA k2 (pA k1 pT))))) (by kernel_rfl)
  ·obtain rfl := retE h
   exact fin (ok X) 5 (bT 4 (bF 3 [.b true, .b false, .b true])) (pR 4 k1 (pR 3 k2 (pA k1 (pA k2 (pA k1 pT))))) (by kernel_rfl)
 ·obtain rfl := retE h
  exact fin (ok X) 5 (bF 6 []) (pR 6 k1 pT) (by kernel_rfl)

theorem zip {a0 : z07} {a1 : z07} {r : Bool} (h : ze0 a0 a1 = some r) : Cv Tryz.prog (GX X) 106 [.agg (bs (z0w a0)), .agg (bs (z0w a1))] (ze1 r) := by
 refine Cs.toV (?_ : Cs Tryz.prog (GX X) 106 [.agg (bs (z0w a0)), .agg (bs (z0w a1))] [] (ze1 r) (zsd r)) (by kernel_rfl)
 refine fnT (cx := cx X) Tryz.f106 Tryz.call106 Tryz.func106 (by kernel_rfl) ?_
 unfold ze0 at h
 rcases iteE h with ⟨k1, h⟩ | ⟨k1, h⟩
 ·obtain ⟨v1, k2, h⟩ := z06 h
  obtain rfl := retE h
  exact fin (ok X) 9 [.b true, .c (zdz v1)] (pA k1 (pA (zgt (X := X) k2) pT)) (by kernel_rfl)
 ·refine adv (ok X) 8 [.b false] (pA k1 pT) (by kernel_rfl) ?_
  rcases iteE h with ⟨k3, h⟩ | ⟨k3, h⟩
  ·obtain rfl := retE h
   exact fin (ok X) 2 (bT 4 []) (pR 4 k3 pT) (by kernel_rfl)
  ·obtain rfl := retE h
   exact fin (ok X) 2 (bF 4 []) (pR 4 k3 pT) (by kernel_rfl)

theorem zwi {n : Nat} (ih_r02_deep : ∀ (a0 : z07) (r : Int), z83 n a0 = some r → Cv Tryz.prog (GX X) 78 [.agg (bs (z0w a0))] (z5z r)) (a0 : z07) (r : Int) (h : z83 (n + 1) a0 = some r) : Cv Tryz.prog (GX X) 78 [.agg (bs (z0w a0))] (z5z r) := by
 refine Cs.toV (?_ : Cs Tryz.prog (GX X) 78 [.agg (bs (z0w a0))] [] (z5z r) (zw9 r)) (by kernel_rfl)
 refine fnT (cx := cx X) Tryz.f78 Tryz.call78 Tryz.func78 (by kernel_rfl) ?_
 rw [z83] at h
 refine adv (ok X) 5 [] pT (by kernel_rfl) ?_
 refine jn (ok X) 1 (fun (j1 : Bool) => ⟨66, 0, [(1, [xP 0 0]), (5, [xB j1])], [oB 43 (bs (z0w a0))]⟩) h (fun j1 h => ?_) (fun j1 h => ?_)
 ·rcases iteE h with ⟨k1, h⟩ | ⟨k1, h⟩
  ·obtain ⟨v1, k2, h⟩ := z06 h
   obtain ⟨v2, k3, h⟩ := z06 h
   obtain rfl := retE h
   exact fin (ok X) 1 (bT 3 (.e (z0w v1) :: bT 3 [.c (zdz v2), .b true])) (pR 3 k1 (pA (ixr z25 k2) (pR 3 k1 (pA (zgt (X := X) k3) (pA k1 pT))))) (by kernel_rfl)
  ·obtain rfl := retE h
   exact fin (ok X) 1 (bF 7 []) (pR 7 k1 pT) (by kernel_rfl)
 ·rcases iteE h with ⟨k4, h⟩ | ⟨k4, h⟩
  ·obtain ⟨v3, k5, h⟩ := z06 h
   obtain ⟨v4, k6, h⟩ := z06 h
   obtain rfl := retE h
   exact fin (ok X) 4 [.b true, .e (z0w v3), .c (z5z v4)] (pA k4 (pA (ixr z25 k5) (pA (ih_r02_deep _ _ k6) pT))) (by kernel_rfl)
  ·refine adv (ok X) 3 [.b false] (pA k4 pT) (by kernel_rfl) ?_
   rcases iteE h with ⟨k7, h⟩ | ⟨k7, h⟩
   ·obtain ⟨v5, k8, h⟩ := z06 h
    obtain ⟨v6, k9, h⟩ := z06 h
    obtain rfl := retE h
    exact fin (ok X) 4 [.b true, .e (z0w v5), .c (z5z v6)] (pA k7 (pA (ixr z25 k8) (pA (ih_r02_deep _ _ k9) pT))) (by kernel_rfl)
   ·obtain ⟨v7, k10, h⟩ := z06 h
    refine adv (ok X) 3 [.b false, .c (zdz v7)] (pA k7 (pA (zgt (X := X) k10) pT)) (by kernel_rfl) ?_
    rcases iteE h with ⟨k11, h⟩ | ⟨k11, h⟩
    ·obtain ⟨v8, k12, h⟩ := z06 h
     obtain ⟨v9, k13, h⟩ := z06 h
     obtain ⟨v10, k14, h⟩ := z06 h
     obtain ⟨v11, k15, h⟩ := z06 h
     obtain ⟨v12, k16, h⟩ := z06 h
     refine adv (ok X) 6 [.b true, .o [0, 1, 2, 3, 4, 5, 6, 7, 8, 9, 10, 11], .e (z0w v8), .c (z5z v9), .e (z0w v10), .c (z5z v11), .o [0, 1, 2, 3, 4, 5], .e (z0w v8), .c (zhi v12)] (pA k11 (pA (ixr z25 k12) (pA (ih_r02_deep _ _ k13) (pA (ixr z25 k14) (pA (ih_r02_deep _ _ k15) (pA (ixr z25 k12) (pA (zo8 (X := X) k16) pT))))))) (by kernel_rfl) ?_
     rcases iteE h with ⟨k17, h⟩ | ⟨k17, h⟩
     ·obtain ⟨v13, k18, h⟩ := z06 h
      refine adv (ok X) 5 [.b true, .o [0, 1, 2, 3, 4, 5], .e (z0w v10), .c (ze1 v13)] (pA k17 (pA (ixr z25 k14) (pA (zip (X := X) k18) pT))) (by kernel_rfl) ?_
      rcases iteE h with ⟨k19, h⟩ | ⟨k19, h⟩
      ·obtain rfl := retE h
       exact fin (ok X) 5 [.b true] (pA k19 pT) (by kernel_rfl)
      ·obtain rfl := retE h
       exact fin (ok X) 5 [.b false] (pA k19 pT) (by kernel_rfl)
     ·obtain ⟨v14, k20, h⟩ := z06 h
      refine adv (ok X) 5 [.b false, .o [0, 1, 2, 3, 4, 5], .e (z0w v10), .c (ze1 v14)] (pA k17 (pA (ixr z25 k14) (pA (zip (X := X) k20) pT))) (by kernel_rfl) ?_
      rcases iteE h with ⟨k21, h⟩ | ⟨k21, h⟩
      ·obtain rfl := retE h
       exact fin (ok X) 5 [.b true] (pA k21 pT) (by kernel_rfl)
      ·obtain rfl := retE h
       exact fin (ok X) 5 [.b false] (pA k21 pT) (by kernel_rfl)
    ·obtain rfl := retE h
     exact fin (ok X) 6 [.b false] (pA k11 pT) (by kernel_rfl)

theorem zl2 : ∀ n : Nat, (∀ (a0 : z07) (r : Int), z83 n a0 = some r → Cv Tryz.prog (GX X) 78 [.agg (bs (z0w a0))] (z5z r))
 | 0 => (fun _ _ h => by rw [z83] at h; cases h)
 | n + 1 => by
  have ih := zl2 n
  exact zwi ih

theorem zbp {a0 : z07} {r : Int} (h : zcn a0 = some r) : Cv Tryz.prog (GX X) 78 [.agg (bs (z0w a0))] (z5z r) := by
 obtain ⟨n, hn⟩ := unfE h
 exact (zl2 n) _ _ hn

theorem zqw {n : Nat} (ih_r02_blocks : ∀ (a0 : (List z03)) (r : (Int × Int)), z2x n a0 = some r → Cv Tryz.prog (GX X) 45 [xL (List.map z0d a0)] (z7d r)) (a0 : (List z03)) (r : (Int × Int)) (h : z2x (n + 1) a0 = some r) : Cv Tryz.prog (GX X) 45 [xL (List.map z0d a0)] (z7d r) := by
 refine Cs.toV (?_ : Cs Tryz.prog (GX X) 45 [xL (List.map z0d a0)] [] (z7d r) (zkz r)) (by kernel_rfl)
 refine fnT (cx := cx X) Tryz.f45 Tryz.call45 Tryz.func45 (by kernel_rfl) ?_
 rw [z2x] at h
 refine adv (ok X) 7 [] pT (by kernel_rfl) ?_
 refine lp (ok X) (z8s (z2x n) a0) (fun (x1 : (Int × Int × Int)) => ⟨128, 0, [(0, [xL (List.map z0d a0)]), (4, [xI x1.1]), (5, [xI x1.2.1]), (6, [xI x1.2.2])], []⟩) (fun (j1 : (Int × Int)) => ⟨128, 0, [(4, [xI j1.1]), (5, [xI j1.2])], []⟩) z84 (0, 0, 0) (fun _ => ⟨_, _, _, _, rfl⟩) h (by kernel_rfl) (fun x1 o h => ?_) (fun r' h => ?_) (fun j1 h => ?_)
 ·unfold z8s at h
  refine adv (ok X) 3 [.i (a0.length : Int)] (pA (lm z0d a0) pT) (by kernel_rfl) ?_
  rcases iteE h with ⟨k1, h⟩ | ⟨k1, h⟩
  ·refine adv (ok X) 3 [.b true] (pA k1 pT) (by kernel_rfl) ?_
   refine jn (ok X) 1 (fun (j2 : (Int × Int)) => ⟨128, 0, [(0, [xL (List.map z0d a0)]), (4, [xI j2.1]), (5, [xI j2.2]), (6, [xI x1.2.2])], []⟩) h (fun j2 h => ?_) (fun j2 h => ?_)
   ·obtain ⟨v1, k2, h⟩ := z06 h
    refine adv (ok X) 12 [.e (z96 v1)] (pA (ixr z8p k2) pT) (by kernel_rfl) ?_
    rcases iteE h with ⟨k3, h⟩ | ⟨k3, h⟩
    ·obtain ⟨v2, k4, h⟩ := z06 h
     refine adv (ok X) 7 [.b true, .b true, .c (z5z v2)] (pA k3 (pA k3 (pA (zbp (X := X) k4) pT))) (by kernel_rfl) ?_
     refine lp (ok X) (zde (z2x n)) (fun (x3 : Unit) => ⟨128, 0, [(0, [xL (List.map z0d a0)]), (4, [xI x1.1]), (5, [xI (max x1.2.1 v2)]), (6, [xI x1.2.2]), (8, [.c (.emp)]), (10, [xI 0])], []⟩) (fun (j3 : Unit) => ⟨128, 0, [(0, [xL (List.map z0d a0)]), (4, [xI x1.1]), (5, [xI (max x1.2.1 v2)]), (6, [xI x1.2.2])], []⟩) z84 () (fun _ => ⟨_, _, _, _, rfl⟩) h (by kernel_rfl) (fun x3 o h => ?_) (fun r' h => ?_) (fun j3 h => ?_)
     ·unfold zde at h
      rcases iteE h with ⟨k5, h⟩ | ⟨k5, h⟩
      ·cases h
      ·obtain rfl := retE h
       exact fin (ok X) 5 [.b false] (pA k5 pT) (by kernel_rfl)
     ·cases h
     ·obtain rfl := retE h
      exact fin (ok X) 1 [] pT (by kernel_rfl)
    ·refine adv (ok X) 2 [.b false] (pA k3 pT) (by kernel_rfl) ?_
     rcases iteE h with ⟨k6, h⟩ | ⟨k6, h⟩
     ·obtain ⟨v3, k7, h⟩ := z06 h
      refine adv (ok X) 5 [.b true, .c (z5z v3)] (pA k6 (pA (zbp (X := X) k7) pT)) (by kernel_rfl) ?_
      refine lp (ok X) (zdf (z2x n)) (fun (x4 : Unit) => ⟨128, 0, [(0, [xL (List.map z0d a0)]), (4, [xI x1.1]), (5, [xI (max x1.2.1 v3)]), (6, [xI x1.2.2]), (8, [.c (.emp)]), (10, [xI 0])], []⟩) (fun (j4 : Unit) => ⟨128, 0, [(0, [xL (List.map z0d a0)]), (4, [xI x1.1]), (5, [xI (max x1.2.1 v3)]), (6, [xI x1.2.2])], []⟩) z84 () (fun _ => ⟨_, _, _, _, rfl⟩) h (by kernel_rfl) (fun x4 o h => ?_) (fun r' h => ?_) (fun j4 h => ?_)
      ·unfold zdf at h
       rcases iteE h with ⟨k8, h⟩ | ⟨k8, h⟩
       ·cases h
       ·obtain rfl := retE h
        exact fin (ok X) 5 [.b false] (pA k8 pT) (by kernel_rfl)
      ·cases h
      ·obtain rfl := retE h
       exact fin (ok X) 1 [] pT (by kernel_rfl)
     ·refine adv (ok X) 3 [.b false] (pA k6 pT) (by kernel_rfl) ?_
      rcases iteE h with ⟨k9, h⟩ | ⟨k9, h⟩
      ·obtain ⟨v4, k10, h⟩ := z06 h
       obtain ⟨v5, k11, h⟩ := z06 h
       obtain ⟨v6, k12, h⟩ := z06 h
       refine adv (ok X) 9 [.b true, .l (List.map zc1 v4), .o [0, 1, 2, 3, 4, 5, 6, 7, 8, 9, 10], .c (z5z v5), .c (z5z v6)] (pA k9 (pA (apm (L := []) (M := [v1.Body, v1.Else]) zkj k10) (pA (zbp (X := X) k11) (pA (zbp (X := X) k12) pT)))) (by kernel_rfl) ?_
       refine lp (ok X) (zdg (z2x n) v4) (fun (x5 : (Int × Int × Int)) => ⟨128, 0, [(0, [xL (List.map z0d a0)]), (4, [xI x5.1]), (5, [xI x5.2.1]), (6, [xI x1.2.2]), (8, [xR 1]), (10, [xI x5.2.2])], [none, oR true 47 1 (List.map zc1 v4)]⟩) (fun (j5 : (Int × Int)) => ⟨128, 0, [(0, [xL (List.map z0d a0)]), (4, [xI j5.1]), (5, [xI j5.2]), (6, [xI x1.2.2])], []⟩) z84 ((max x1.1 1), (max (max x1.2.1 v5) v6), 0) (fun _ => ⟨_, _, _, _, rfl⟩) h (by kernel_rfl) (fun x5 o h => ?_) (fun r' h => ?_) (fun j5 h => ?_)
       ·unfold zdg at h
        refine adv (ok X) 3 [.i (v4.length : Int)] (pA (lm zc1 v4) pT) (by kernel_rfl) ?_
        rcases iteE h with ⟨k13, h⟩ | ⟨k13, h⟩
        ·obtain ⟨v7, k14, h⟩ := z06 h
         obtain ⟨v8, k15, h⟩ := z06 h
         obtain rfl := retE h
         exact fin (ok X) 9 [.b true, .e [.sl (List.map z0d v7)], .e [.sl (List.map z0d v7)], .c (z7d v8)] (pA k13 (pA (ixm zc1 k14) (pA (rwm zc1 k14) (pA (ih_r02_blocks _ _ k15) pT)))) (by kernel_rfl)
        ·obtain rfl := retE h
         exact fin (ok X) 2 [.b false] (pA k13 pT) (by kernel_rfl)
       ·cases h
       ·obtain rfl := retE h
        exact fin (ok X) 1 [] pT (by kernel_rfl)
      ·refine adv (ok X) 3 [.b false] (pA k9 pT) (by kernel_rfl) ?_
       rcases iteE h with ⟨k16, h⟩ | ⟨k16, h⟩
       ·obtain ⟨v9, k17, h⟩ := z06 h
        obtain ⟨v10, k18, h⟩ := z06 h
        obtain ⟨v11, k19, h⟩ := z06 h
        refine adv (ok X) 9 [.b true, .l (List.map zc1 v9), .o [0, 1, 2, 3, 4, 5, 6, 7, 8, 9, 10], .c (z5z v10), .c (z5z v11)] (pA k16 (pA (apm (L := []) (M := [v1.Body]) zkj k17) (pA (zbp (X := X) k18) (pA (zbp (X := X) k19) pT)))) (by kernel_rfl) ?_
        refine lp (ok X) (zdh (z2x n) v9) (fun (x6 : (Int × Int × Int)) => ⟨128, 0, [(0, [xL (List.map z0d a0)]), (4, [xI x6.1]), (5, [xI x6.2.1]), (6, [xI x1.2.2]), (8, [xR 1]), (10, [xI x6.2.2])], [none, oR true 47 1 (List.map zc1 v9)]⟩) (fun (j6 : (Int × Int)) => ⟨128, 0, [(0, [xL (List.map z0d a0)]), (4, [xI j6.1]), (5, [xI j6.2]), (6, [xI x1.2.2])], []⟩) z84 ((max x1.1 1), (max (max x1.2.1 v10) v11), 0) (fun _ => ⟨_, _, _, _, rfl⟩) h (by kernel_rfl) (fun x6 o h => ?_) (fun r' h => ?_) (fun j6 h => ?_)
        ·unfold zdh at h
         refine adv (ok X) 3 [.i (v9.length : Int)] (pA (lm zc1 v9) pT) (by kernel_rfl) ?_
         rcases iteE h with ⟨k20, h⟩ | ⟨k20, h⟩
         ·obtain ⟨v12, k21, h⟩ := z06 h
          obtain ⟨v13, k22, h⟩ := z06 h
          obtain rfl := retE h
          exact fin (ok X) 9 [.b true, .e [.sl (List.map z0d v12)], .e [.sl (List.map z0d v12)], .c (z7d v13)] (pA k20 (pA (ixm zc1 k21) (pA (rwm zc1 k21) (pA (ih_r02_blocks _ _ k22) pT)))) (by kernel_rfl)
         ·obtain rfl := retE h
          exact fin (ok X) 2 [.b false] (pA k20 pT) (by kernel_rfl)
        ·cases h
        ·obtain rfl := retE h
         exact fin (ok X) 1 [] pT (by kernel_rfl)
       ·refine adv (ok X) 3 [.b false] (pA k16 pT) (by kernel_rfl) ?_
        rcases iteE h with ⟨k23, h⟩ | ⟨k23, h⟩
        ·refine adv (ok X) 4 [.b true] (pA k23 pT) (by kernel_rfl) ?_
         refine lp (ok X) (z8r (z2x n) v1) (fun (x7 : (Int × (List (List z03)))) => ⟨128, 0, [(0, [xL (List.map z0d a0)]), (4, [xI x1.1]), (5, [xI x1.2.1]), (6, [xI x1.2.2]), (7, [xP 0 0]), (8, [xR 1]), (9, [xI x7.1])], [oB 50 (bs (z96 v1)), oR true 47 1 (List.map zc1 x7.2)]⟩) (fun (j7 : (List (List z03))) => ⟨128, 0, [(0, [xL (List.map z0d a0)]), (4, [xI x1.1]), (5, [xI x1.2.1]), (6, [xI x1.2.2]), (8, [xR 1])], [none, oR true 47 1 (List.map zc1 j7)]⟩) z84 (0, []) (fun _ => ⟨_, _, _, _, rfl⟩) h (by kernel_rfl) (fun x7 o h => ?_) (fun r' h => ?_) (fun j7 h => ?_)
         ·unfold z8r at h
          refine adv (ok X) 3 [.i (v1.Arms.length : Int)] (pA (lm z52 v1.Arms) pT) (by kernel_rfl) ?_
          rcases iteE h with ⟨k24, h⟩ | ⟨k24, h⟩
          ·obtain ⟨v14, k25, h⟩ := z06 h
           obtain ⟨v15, k26, h⟩ := z06 h
           obtain rfl := retE h
           exact fin (ok X) 7 [.b true, .e (z8j v14), .l (List.map zc1 v15)] (pA k24 (pA (ixr z4x k25) (pA (apm (L := x7.2) (M := [v14.Body]) zkj k26) pT))) (by kernel_rfl)
          ·obtain rfl := retE h
           exact fin (ok X) 2 [.b false] (pA k24 pT) (by kernel_rfl)
         ·cases h
         ·refine adv (ok X) 4 [] pT (by kernel_rfl) ?_
          refine lp (ok X) (zdi (z2x n) j7) (fun (x8 : (Int × Int × Int)) => ⟨128, 0, [(0, [xL (List.map z0d a0)]), (4, [xI x8.1]), (5, [xI x8.2.1]), (6, [xI x1.2.2]), (8, [xR 1]), (10, [xI x8.2.2])], [none, oR true 47 1 (List.map zc1 j7)]⟩) (fun (j8 : (Int × Int)) => ⟨128, 0, [(0, [xL (List.map z0d a0)]), (4, [xI j8.1]), (5, [xI j8.2]), (6, [xI x1.2.2])], []⟩) z84 ((max x1.1 1), x1.2.1, 0) (fun _ => ⟨_, _, _, _, rfl⟩) h (by kernel_rfl) (fun x8 o h => ?_) (fun r' h => ?_) (fun j8 h => ?_)
          ·unfold zdi at h
           refine adv (ok X) 3 [.i (j7.length : Int)] (pA (lm zc1 j7) pT) (by kernel_rfl) ?_
           rcases iteE h with ⟨k27, h⟩ | ⟨k27, h⟩
           ·obtain ⟨v16, k28, h⟩ := z06 h
            obtain ⟨v17, k29, h⟩ := z06 h
            obtain rfl := retE h
            exact fin (ok X) 9 [.b true, .e [.sl (List.map z0d v16)], .e [.sl (List.map z0d v16)], .c (z7d v17)] (pA k27 (pA (ixm zc1 k28) (pA (rwm zc1 k28) (pA (ih_r02_blocks _ _ k29) pT)))) (by kernel_rfl)
           ·obtain rfl := retE h
            exact fin (ok X) 2 [.b false] (pA k27 pT) (by kernel_rfl)
          ·cases h
          ·obtain rfl := retE h
           exact fin (ok X) 1 [] pT (by kernel_rfl)
        ·refine adv (ok X) 3 [.b false] (pA k23 pT) (by kernel_rfl) ?_
         rcases iteE h with ⟨k30, h⟩ | ⟨k30, h⟩
         ·obtain ⟨v18, k31, h⟩ := z06 h
          obtain ⟨v19, k32, h⟩ := z06 h
          refine adv (ok X) 5 [.b true, .o [0, 1, 2, 3, 4, 5, 6, 7, 8, 9, 10], .c (z5z v18), .c (z5z v19)] (pA k30 (pA (zbp (X := X) k31) (pA (zbp (X := X) k32) pT))) (by kernel_rfl) ?_
          refine lp (ok X) (zdj (z2x n)) (fun (x9 : Unit) => ⟨128, 0, [(0, [xL (List.map z0d a0)]), (4, [xI x1.1]), (5, [xI (max (max x1.2.1 v18) v19)]), (6, [xI x1.2.2]), (8, [.c (.emp)]), (10, [xI 0])], []⟩) (fun (j9 : Unit) => ⟨128, 0, [(0, [xL (List.map z0d a0)]), (4, [xI x1.1]), (5, [xI (max (max x1.2.1 v18) v19)]), (6, [xI x1.2.2])], []⟩) z84 () (fun _ => ⟨_, _, _, _, rfl⟩) h (by kernel_rfl) (fun x9 o h => ?_) (fun r' h => ?_) (fun j9 h => ?_)
          ·unfold zdj at h
           rcases iteE h with ⟨k33, h⟩ | ⟨k33, h⟩
           ·cases h
           ·obtain rfl := retE h
            exact fin (ok X) 5 [.b false] (pA k33 pT) (by kernel_rfl)
          ·cases h
          ·obtain rfl := retE h
           exact fin (ok X) 1 [] pT (by kernel_rfl)
         ·refine adv (ok X) 5 [.b false] (pA k30 pT) (by kernel_rfl) ?_
          refine lp (ok X) (zco (z2x n)) (fun (x10 : Unit) => ⟨128, 0, [(0, [xL (List.map z0d a0)]), (4, [xI x1.1]), (5, [xI x1.2.1]), (6, [xI x1.2.2]), (8, [.c (.emp)]), (10, [xI 0])], []⟩) (fun (j10 : Unit) => ⟨128, 0, [(0, [xL (List.map z0d a0)]), (4, [xI x1.1]), (5, [xI x1.2.1]), (6, [xI x1.2.2])], []⟩) z84 () (fun _ => ⟨_, _, _, _, rfl⟩) h (by kernel_rfl) (fun x10 o h => ?_) (fun r' h => ?_) (fun j10 h => ?_)
          ·unfold zco at h
           rcases iteE h with ⟨k34, h⟩ | ⟨k34, h⟩
           ·cases h
           ·obtain rfl := retE h
            exact fin (ok X) 5 [.b false] (pA k34 pT) (by kernel_rfl)
          ·cases h
          ·obtain rfl := retE h
           exact fin (ok X) 1 [] pT (by kernel_rfl)
   ·obtain rfl := retE h
    exact fin (ok X) 1 [] pT (by kernel_rfl)
  ·obtain rfl := retE h
   exact fin (ok X) 2 [.b false] (pA k1 pT) (by kernel_rfl)
 ·cases h
 ·obtain rfl := retE h
  exact fin (ok X) 3 [] pT (by kernel_rfl)

theorem zi5 : ∀ n : Nat, (∀ (a0 : (List z03)) (r : (Int × Int)), z2x n a0 = some r → Cv Tryz.prog (GX X) 45 [xL (List.map z0d a0)] (z7d r))
 | 0 => (fun _ _ h => by rw [z2x] at h; cases h)
 | n + 1 => by
  have ih := zi5 n
  exact zqw ih

theorem zqx {a0 : (List z03)} {r : (Int × Int)} (h : zkd a0 = some r) : Cv Tryz.prog (GX X) 45 [xL (List.map z0d a0)] (z7d r) := by
 obtain ⟨n, hn⟩ := unfE h
 exact (zi5 n) _ _ hn

theorem zmj {n : Nat} (ih_r02_exprWords : ∀ (a0 : z07) (r : (List ByteArray)), z4a n a0 = some r → Cs Tryz.prog (GX X) 79 [.agg (bs (z0w a0))] [] (z4s r) (z4t r)) (ih_r02_in : ∀ (a0 : z07) (a1 : Bool) (r : (List ByteArray)), zcb n a0 a1 = some r → Cs Tryz.prog (GX X) 107 [.agg (bs (z0w a0)), xB a1] [] (zfo r) (zfp r)) (a0 : z07) (r : (List ByteArray)) (h : z4a (n + 1) a0 = some r) : Cs Tryz.prog (GX X) 79 [.agg (bs (z0w a0))] [] (z4s r) (z4t r) := by
 refine fnT (cx := cx X) Tryz.f79 Tryz.call79 Tryz.func79 (by kernel_rfl) ?_
 rw [z4a] at h
 rcases iteE h with ⟨k1, h⟩ | ⟨k1, h⟩
 ·refine adv (ok X) 14 [.b true] (pA k1 pT) (by kernel_rfl) ?_
  refine lp (ok X) (z3z (z4a n) (zcb n)) (fun (x1 : (ByteArray × Int)) => ⟨83, 0, [(3, [xS x1.1]), (4, [xI x1.2])], []⟩) (fun (j1 : ByteArray) => ⟨83, 0, [(3, [xS j1])], []⟩) zm8 ((ByteArray.mk #[]), a0.Num) (fun _ => ⟨_, _, _, _, rfl⟩) h (by kernel_rfl) (fun x1 o h => ?_) (fun r' h => ?_) (fun j1 h => ?_)
  ·unfold z3z at h
   refine adv (ok X) 2 [] pT (by kernel_rfl) ?_
   refine jn (ok X) 1 (fun (j2 : Bool) => ⟨83, 0, [(3, [xS x1.1]), (4, [xI x1.2]), (17, [xB j2])], []⟩) h (fun j2 h => ?_) (fun j2 h => ?_)
   ·rcases iteE h with ⟨k2, h⟩ | ⟨k2, h⟩
    ·obtain rfl := retE h
     exact fin (ok X) 1 (bT 3 []) (pR 3 k2 pT) (by kernel_rfl)
    ·obtain rfl := retE h
     exact fin (ok X) 1 (bF 3 []) (pR 3 k2 pT) (by kernel_rfl)
   ·rcases iteE h with ⟨k3, h⟩ | ⟨k3, h⟩
    ·obtain ⟨v1, k4, h⟩ := z06 h
     obtain ⟨v2, k5, h⟩ := z06 h
     obtain ⟨v3, k6, h⟩ := z06 h
     obtain rfl := retE h
     exact fin (ok X) 7 [.b true, .i v1, .x [xS (strOfNums [(IntKind.u8.wrap (IntKind.i64.wrap (48 + v1)))])], .x [xS v2], .i v3] (pA k3 (pA k4 (pA (byS [(IntKind.u8.wrap (IntKind.i64.wrap (48 + v1)))]) (pA k5 (pA k6 pT))))) (by kernel_rfl)
    ·obtain rfl := retE h
     exact fin (ok X) 2 [.b false] (pA k3 pT) (by kernel_rfl)
  ·cases h
  ·obtain rfl := retE h
   exact fin (ok X) 3 [.own] pT (by kernel_rfl)
 ·refine adv (ok X) 11 [.b false] (pA k1 pT) (by kernel_rfl) ?_
  rcases iteE h with ⟨k7, h⟩ | ⟨k7, h⟩
  ·obtain rfl := retE h
   exact fin (ok X) 4 [.b true, .own] (pA k7 pT) (by kernel_rfl)
  ·refine adv (ok X) 3 [.b false] (pA k7 pT) (by kernel_rfl) ?_
   rcases iteE h with ⟨k8, h⟩ | ⟨k8, h⟩
   ·obtain ⟨v4, k9, h⟩ := z06 h
    obtain ⟨v5, k10, h⟩ := z06 h
    obtain ⟨v6, k11, h⟩ := z06 h
    obtain ⟨v7, k12, h⟩ := z06 h
    obtain rfl := retE h
    exact fin (ok X) 4 [.b true, .o [0, 1, 2, 3, 4, 5, 6, 7, 8, 9, 10, 11, 12, 13], .own, .e (z0w v4), .e (z0w v4), .c (zdz v5), .sb (zfo v6) (zfp v6), .l (List.map z1j v7)] (pA k8 (pA (ixr z25 k9) (pA (ixr z25 k9) (pA (zgt (X := X) k10) (pA (ih_r02_in _ _ _ k11) (pA (apm (L := [(ByteArray.mk #[45])]) (M := v6) z1q k12) pT)))))) (by kernel_rfl)
   ·obtain ⟨v8, k13, h⟩ := z06 h
    obtain ⟨v9, k14, h⟩ := z06 h
    obtain ⟨v10, k15, h⟩ := z06 h
    obtain ⟨v11, k16, h⟩ := z06 h
    obtain ⟨v12, k17, h⟩ := z06 h
    obtain ⟨v13, k18, h⟩ := z06 h
    obtain ⟨v14, k19, h⟩ := z06 h
    obtain ⟨v15, k20, h⟩ := z06 h
    obtain ⟨v16, k21, h⟩ := z06 h
    obtain rfl := retE h
    exact fin (ok X) 10 [.b false, .o [0, 1, 2, 3, 4, 5, 6, 7, 8, 9, 10, 11], .e (z0w v8), .e (z0w v8), .c (zhi v9), .sb (zfo v10) (zfp v10), .e [.str v11], .l (List.map z1j v12), .o [0, 1, 2, 3, 4, 5, 6, 7, 8, 9, 10, 11, 12, 13], .e (z0w v13), .e (z0w v13), .c (ze1 v14), .sb (zfo v15) (zfp v15), .l (List.map z1j v16)] (pA k8 (pA (ixr z25 k13) (pA (ixr z25 k13) (pA (zo8 (X := X) k14) (pA (ih_r02_in _ _ _ k15) (pA (ixm z1j k16) (pA (apm (L := v10) (M := [v11]) z1q k17) (pA (ixr z25 k18) (pA (ixr z25 k18) (pA (zip (X := X) k19) (pA (ih_r02_in _ _ _ k20) (pA (apm (L := v12) (M := v15) z1q k21) pT)))))))))))) (by kernel_rfl)

theorem z00z {n : Nat} (ih_r02_exprWords : ∀ (a0 : z07) (r : (List ByteArray)), z4a n a0 = some r → Cs Tryz.prog (GX X) 79 [.agg (bs (z0w a0))] [] (z4s r) (z4t r)) (ih_r02_in : ∀ (a0 : z07) (a1 : Bool) (r : (List ByteArray)), zcb n a0 a1 = some r → Cs Tryz.prog (GX X) 107 [.agg (bs (z0w a0)), xB a1] [] (zfo r) (zfp r)) (a0 : z07) (a1 : Bool) (r : (List ByteArray)) (h : zcb (n + 1) a0 a1 = some r) : Cs Tryz.prog (GX X) 107 [.agg (bs (z0w a0)), xB a1] [] (zfo r) (zfp r) := by
 refine fnT (cx := cx X) Tryz.f107 Tryz.call107 Tryz.func107 (by kernel_rfl) ?_
 rw [zcb] at h
 obtain ⟨v1, k1, h⟩ := z06 h
 refine adv (ok X) 7 [.s (z4s v1) (z4t v1)] (pA (ih_r02_exprWords _ _ k1) pT) (by kernel_rfl) ?_
 rcases iteE h with ⟨k2, h⟩ | ⟨k2, h⟩
 ·obtain ⟨v2, k3, h⟩ := z06 h
  obtain ⟨v3, k4, h⟩ := z06 h
  obtain rfl := retE h
  exact fin (ok X) 4 [.b true, .own, .l (List.map z1j v2), .l (List.map z1j v3)] (pA k2 (pA (apm (L := [(ByteArray.mk #[40])]) (M := v1) z1q k3) (pA (apm (L := v2) (M := [(ByteArray.mk #[41])]) z1q k4) pT))) (by kernel_rfl)
 ·obtain rfl := retE h
  exact fin (ok X) 5 [.b false] (pA k2 pT) (by kernel_rfl)

theorem zf6 : ∀ n : Nat, (∀ (a0 : z07) (r : (List ByteArray)), z4a n a0 = some r → Cs Tryz.prog (GX X) 79 [.agg (bs (z0w a0))] [] (z4s r) (z4t r)) ∧ (∀ (a0 : z07) (a1 : Bool) (r : (List ByteArray)), zcb n a0 a1 = some r → Cs Tryz.prog (GX X) 107 [.agg (bs (z0w a0)), xB a1] [] (zfo r) (zfp r))
 | 0 => ⟨(fun _ _ h => by rw [z4a] at h; cases h), (fun _ _ _ h => by rw [zcb] at h; cases h)⟩
 | n + 1 => by
  have ih := zf6 n
  exact ⟨zmj ih.1 ih.2, z00z ih.1 ih.2⟩

theorem z9m {a0 : z07} {r : (List ByteArray)} (h : z8t a0 = some r) : Cs Tryz.prog (GX X) 79 [.agg (bs (z0w a0))] [] (z4s r) (z4t r) := by
 obtain ⟨n, hn⟩ := unfE h
 exact (zf6 n).1 _ _ hn

theorem zgu {a0 : Int} {r : ByteArray} (h : zcc a0 = some r) : Cv Tryz.prog (GX X) 46 [xI a0] (zcs r) := by
 refine Cs.toV (?_ : Cs Tryz.prog (GX X) 46 [xI a0] [] (zcs r) (zqo r)) (by kernel_rfl)
 refine fnT (cx := cx X) Tryz.f46 Tryz.call46 Tryz.func46 (by kernel_rfl) ?_
 unfold zcc at h
 obtain ⟨v1, k1, h⟩ := z06 h
 obtain ⟨v2, k2, h⟩ := z06 h
 obtain rfl := retE h
 exact fin (ok X) 5 [.s (z4s v1) (z4t v1), .e [.str v2], .e [.str v2]] (pA (z9m (X := X) k1) (pA (ixm z1j k2) (pA (rwm z1j k2) pT))) (by kernel_rfl)

theorem ze9 {a0 : z2b} {r : (List ByteArray)} (h : z8u a0 = some r) : Cv Tryz.prog (GX X) 80 [.agg (bs (z7v a0))] (z9k r) := by
 refine Cs.toV (?_ : Cs Tryz.prog (GX X) 80 [.agg (bs (z7v a0))] [] (z9k r) (zm9 r)) (by kernel_rfl)
 refine fnT (cx := cx X) Tryz.f80 Tryz.call80 Tryz.func80 (by kernel_rfl) ?_
 unfold z8u at h
 obtain ⟨v1, k1, h⟩ := z06 h
 obtain ⟨v2, k2, h⟩ := z06 h
 obtain ⟨v3, k3, h⟩ := z06 h
 obtain ⟨v4, k4, h⟩ := z06 h
 obtain ⟨v5, k5, h⟩ := z06 h
 obtain ⟨v6, k6, h⟩ := z06 h
 obtain ⟨v7, k7, h⟩ := z06 h
 obtain rfl := retE h
 exact fin (ok X) 9 [.own, .s (z4s v1) (z4t v1), .l (List.map z1j v2), .e [.str v3], .l (List.map z1j v4), .s (z4s v5) (z4t v5), .l (List.map z1j v6), .l (List.map z1j v7)] (pA (z9m (X := X) k1) (pA (apm (L := [(ByteArray.mk #[40])]) (M := v1) z1q k2) (pA (ixm z1j k3) (pA (apm (L := v2) (M := [v3]) z1q k4) (pA (z9m (X := X) k5) (pA (apm (L := v4) (M := v5) z1q k6) (pA (apm (L := v6) (M := [(ByteArray.mk #[41])]) z1q k7) pT))))))) (by kernel_rfl)

theorem zmk {n : Nat} (ih_r02_stmtWords : ∀ (a0 : (List z03)) (r : (List ByteArray)), z4b n a0 = some r → Cv Tryz.prog (GX X) 47 [xL (List.map z0d a0)] (z67 r)) (ih_r02_block : ∀ (a0 : (List z03)) (r : (List ByteArray)), z7i n a0 = some r → Cv Tryz.prog (GX X) 81 [xL (List.map z0d a0)] (z8v r)) (a0 : (List z03)) (r : (List ByteArray)) (h : z4b (n + 1) a0 = some r) : Cv Tryz.prog (GX X) 47 [xL (List.map z0d a0)] (z67 r) := by
 refine Cs.toV (?_ : Cs Tryz.prog (GX X) 47 [xL (List.map z0d a0)] [] (z67 r) (zgl r)) (by kernel_rfl)
 refine fnT (cx := cx X) Tryz.f47 Tryz.call47 Tryz.func47 (by kernel_rfl) ?_
 rw [z4b] at h
 refine adv (ok X) 7 [] pT (by kernel_rfl) ?_
 refine lp (ok X) (z7y (z4b n) (z7i n) a0) (fun (x1 : (Int × (List ByteArray))) => ⟨143, 0, [(0, [xL (List.map z0d a0)]), (3, [xR 0]), (4, [xI x1.1])], [oR true 9 1 (List.map z1j x1.2)]⟩) (fun (j1 : (List ByteArray)) => ⟨143, 0, [(3, [xR 0])], [oR true 9 1 (List.map z1j j1)]⟩) zgm (0, []) (fun _ => ⟨_, _, _, _, rfl⟩) h (by kernel_rfl) (fun x1 o h => ?_) (fun r' h => ?_) (fun j1 h => ?_)
 ·unfold z7y at h
  refine adv (ok X) 3 [.i (a0.length : Int)] (pA (lm z0d a0) pT) (by kernel_rfl) ?_
  rcases iteE h with ⟨k1, h⟩ | ⟨k1, h⟩
  ·refine adv (ok X) 3 [.b true] (pA k1 pT) (by kernel_rfl) ?_
   refine jn (ok X) 1 (fun (j2 : (List ByteArray)) => ⟨143, 0, [(0, [xL (List.map z0d a0)]), (3, [xR 0]), (4, [xI x1.1])], [oR true 9 1 (List.map z1j j2)]⟩) h (fun j2 h => ?_) (fun j2 h => ?_)
   ·obtain ⟨v1, k2, h⟩ := z06 h
    refine adv (ok X) 8 [.e (z96 v1)] (pA (ixr z8p k2) pT) (by kernel_rfl) ?_
    rcases iteE h with ⟨k3, h⟩ | ⟨k3, h⟩
    ·obtain ⟨v2, k4, h⟩ := z06 h
     obtain ⟨v3, k5, h⟩ := z06 h
     obtain ⟨v4, k6, h⟩ := z06 h
     obtain ⟨v5, k7, h⟩ := z06 h
     obtain rfl := retE h
     exact fin (ok X) 4 [.b true, .o [0, 1, 2, 3, 5, 6, 9, 4, 7, 8, 10, 11], .l (List.map z1j v2), .sb (z4s v3) (z4t v3), .l (List.map z1j v4), .l (List.map z1j v5)] (pA k3 (pA (apm (L := x1.2) (M := [v1.Name, (ByteArray.mk #[61])]) z1q k4) (pA (z9m (X := X) k5) (pA (apm (L := v2) (M := v3) z1q k6) (pA (apm (L := v4) (M := [(ByteArray.mk #[59])]) z1q k7) pT))))) (by kernel_rfl)
    ·refine adv (ok X) 3 [.b false] (pA k3 pT) (by kernel_rfl) ?_
     rcases iteE h with ⟨k8, h⟩ | ⟨k8, h⟩
     ·obtain ⟨v6, k9, h⟩ := z06 h
      obtain ⟨v7, k10, h⟩ := z06 h
      obtain ⟨v8, k11, h⟩ := z06 h
      obtain ⟨v9, k12, h⟩ := z06 h
      obtain ⟨v10, k13, h⟩ := z06 h
      refine adv (ok X) 5 [.b true, .o [0, 1, 3, 4, 7, 8, 2, 5, 6, 9, 10, 11], .l (List.map z1j v6), .c (z9k v7), .l (List.map z1j v8), .c (z8v v9), .l (List.map z1j v10), .i (v1.Else.length : Int)] (pA k8 (pA (apm (L := x1.2) (M := [(ByteArray.mk #[105, 102])]) z1q k9) (pA (ze9 (X := X) k10) (pA (apm (L := v6) (M := v7) z1q k11) (pA (ih_r02_block _ _ k12) (pA (apm (L := v8) (M := v9) z1q k13) (pA (lm z0d v1.Else) pT))))))) (by kernel_rfl) ?_
      rcases iteE h with ⟨k14, h⟩ | ⟨k14, h⟩
      ·obtain ⟨v11, k15, h⟩ := z06 h
       obtain ⟨v12, k16, h⟩ := z06 h
       obtain ⟨v13, k17, h⟩ := z06 h
       obtain rfl := retE h
       exact fin (ok X) 4 [.b true, .o [0, 1, 3, 4, 2, 5, 6, 7], .l (List.map z1j v11), .c (z8v v12), .l (List.map z1j v13)] (pA k14 (pA (apm (L := v10) (M := [(ByteArray.mk #[101, 108, 115, 101])]) z1q k15) (pA (ih_r02_block _ _ k16) (pA (apm (L := v11) (M := v12) z1q k17) pT)))) (by kernel_rfl)
      ·obtain rfl := retE h
       exact fin (ok X) 4 [.b false] (pA k14 pT) (by kernel_rfl)
     ·refine adv (ok X) 3 [.b false] (pA k8 pT) (by kernel_rfl) ?_
      rcases iteE h with ⟨k18, h⟩ | ⟨k18, h⟩
      ·obtain ⟨v14, k19, h⟩ := z06 h
       obtain ⟨v15, k20, h⟩ := z06 h
       obtain ⟨v16, k21, h⟩ := z06 h
       obtain ⟨v17, k22, h⟩ := z06 h
       obtain ⟨v18, k23, h⟩ := z06 h
       obtain rfl := retE h
       exact fin (ok X) 4 [.b true, .o [0, 1, 3, 4, 7, 8, 2, 5, 6, 9, 10, 11], .l (List.map z1j v14), .c (z9k v15), .l (List.map z1j v16), .c (z8v v17), .l (List.map z1j v18)] (pA k18 (pA (apm (L := x1.2) (M := [(ByteArray.mk #[119, 104, 105, 108, 101])]) z1q k19) (pA (ze9 (X := X) k20) (pA (apm (L := v14) (M := v15) z1q k21) (pA (ih_r02_block _ _ k22) (pA (apm (L := v16) (M := v17) z1q k23) pT)))))) (by kernel_rfl)
      ·refine adv (ok X) 3 [.b false] (pA k18 pT) (by kernel_rfl) ?_
       rcases iteE h with ⟨k24, h⟩ | ⟨k24, h⟩
       ·obtain ⟨v19, k25, h⟩ := z06 h
        obtain ⟨v20, k26, h⟩ := z06 h
        obtain ⟨v21, k27, h⟩ := z06 h
        obtain ⟨v22, k28, h⟩ := z06 h
        obtain rfl := retE h
        exact fin (ok X) 4 [.b true, .o [0, 1, 2, 3, 4, 5, 7, 8, 11, 6, 9, 10, 12, 13], .l (List.map z1j v19), .sb (z4s v20) (z4t v20), .l (List.map z1j v21), .l (List.map z1j v22)] (pA k24 (pA (apm (L := x1.2) (M := [(ByteArray.mk #[115, 101, 110, 100]), v1.Name, (ByteArray.mk #[46]), v1.Tag, (ByteArray.mk #[40])]) z1q k25) (pA (z9m (X := X) k26) (pA (apm (L := v19) (M := v20) z1q k27) (pA (apm (L := v21) (M := [(ByteArray.mk #[41]), (ByteArray.mk #[59])]) z1q k28) pT))))) (by kernel_rfl)
       ·refine adv (ok X) 3 [.b false] (pA k24 pT) (by kernel_rfl) ?_
        rcases iteE h with ⟨k29, h⟩ | ⟨k29, h⟩
        ·obtain ⟨v23, k30, h⟩ := z06 h
         refine adv (ok X) 6 [.b true, .l (List.map z1j v23)] (pA k29 (pA (apm (L := x1.2) (M := [(ByteArray.mk #[114, 101, 99, 118]), v1.Name, (ByteArray.mk #[123])]) z1q k30) pT)) (by kernel_rfl) ?_
         refine lp (ok X) (z7x (z4b n) (z7i n) v1) (fun (x3 : (Int × (List ByteArray))) => ⟨143, 0, [(0, [xL (List.map z0d a0)]), (3, [xR 0]), (4, [xI x1.1]), (5, [xP 1 0]), (6, [xI x3.1])], [oR true 9 1 (List.map z1j x3.2), oB 50 (bs (z96 v1))]⟩) (fun (j3 : (List ByteArray)) => ⟨143, 0, [(0, [xL (List.map z0d a0)]), (3, [xR 0]), (4, [xI x1.1])], [oR true 9 1 (List.map z1j j3)]⟩) zgm (0, v23) (fun _ => ⟨_, _, _, _, rfl⟩) h (by kernel_rfl) (fun x3 o h => ?_) (fun r' h => ?_) (fun j3 h => ?_)
         ·unfold z7x at h
          refine adv (ok X) 3 [.i (v1.Arms.length : Int)] (pA (lm z52 v1.Arms) pT) (by kernel_rfl) ?_
          rcases iteE h with ⟨k31, h⟩ | ⟨k31, h⟩
          ·obtain ⟨v24, k32, h⟩ := z06 h
           obtain ⟨v25, k33, h⟩ := z06 h
           obtain ⟨v26, k34, h⟩ := z06 h
           obtain ⟨v27, k35, h⟩ := z06 h
           obtain rfl := retE h
           exact fin (ok X) 7 [.b true, .o [0, 1, 2, 3, 4, 5, 6, 7, 8, 9, 10, 11, 12, 13, 15, 16, 17, 18, 19, 20, 14, 21, 22, 23], .e (z8j v24), .e (z8j v24), .e (z8j v24), .l (List.map z1j v25), .c (z8v v26), .l (List.map z1j v27)] (pA k31 (pA (ixr z4x k32) (pA (ixr z4x k32) (pA (ixr z4x k32) (pA (apm (L := x3.2) (M := [v24.Tag, (ByteArray.mk #[40]), v24.Var, (ByteArray.mk #[41])]) z1q k33) (pA (ih_r02_block _ _ k34) (pA (apm (L := v25) (M := v26) z1q k35) pT))))))) (by kernel_rfl)
          ·obtain rfl := retE h
           exact fin (ok X) 2 [.b false] (pA k31 pT) (by kernel_rfl)
         ·cases h
         ·obtain ⟨v28, k36, h⟩ := z06 h
          obtain rfl := retE h
          exact fin (ok X) 3 [.l (List.map z1j v28)] (pA (apm (L := j3) (M := [(ByteArray.mk #[125])]) z1q k36) pT) (by kernel_rfl)
        ·refine adv (ok X) 3 [.b false] (pA k29 pT) (by kernel_rfl) ?_
         rcases iteE h with ⟨k37, h⟩ | ⟨k37, h⟩
         ·obtain ⟨v29, k38, h⟩ := z06 h
          obtain ⟨v30, k39, h⟩ := z06 h
          obtain ⟨v31, k40, h⟩ := z06 h
          obtain ⟨v32, k41, h⟩ := z06 h
          obtain rfl := retE h
          exact fin (ok X) 4 [.b true, .o [0, 1, 3, 4, 7, 2, 5, 6, 8, 9], .l (List.map z1j v29), .c (z9k v30), .l (List.map z1j v31), .l (List.map z1j v32)] (pA k37 (pA (apm (L := x1.2) (M := [(ByteArray.mk #[97, 115, 115, 101, 114, 116])]) z1q k38) (pA (ze9 (X := X) k39) (pA (apm (L := v29) (M := v30) z1q k40) (pA (apm (L := v31) (M := [(ByteArray.mk #[59])]) z1q k41) pT))))) (by kernel_rfl)
         ·refine adv (ok X) 3 [.b false] (pA k37 pT) (by kernel_rfl) ?_
          rcases iteE h with ⟨k42, h⟩ | ⟨k42, h⟩
          ·obtain ⟨v33, k43, h⟩ := z06 h
           obtain rfl := retE h
           exact fin (ok X) 4 [.b true, .l (List.map z1j v33)] (pA k42 (pA (apm (L := x1.2) (M := [(ByteArray.mk #[105, 110, 112, 117, 116]), v1.Name, (ByteArray.mk #[59])]) z1q k43) pT)) (by kernel_rfl)
          ·obtain rfl := retE h
           exact fin (ok X) 4 [.b false] (pA k42 pT) (by kernel_rfl)
   ·obtain rfl := retE h
    exact fin (ok X) 1 [] pT (by kernel_rfl)
  ·obtain rfl := retE h
   exact fin (ok X) 2 [.b false] (pA k1 pT) (by kernel_rfl)
 ·cases h
 ·obtain rfl := retE h
  exact fin (ok X) 3 [] pT (by kernel_rfl)

theorem zsp {n : Nat} (ih_r02_stmtWords : ∀ (a0 : (List z03)) (r : (List ByteArray)), z4b n a0 = some r → Cv Tryz.prog (GX X) 47 [xL (List.map z0d a0)] (z67 r)) (ih_r02_block : ∀ (a0 : (List z03)) (r : (List ByteArray)), z7i n a0 = some r → Cv Tryz.prog (GX X) 81 [xL (List.map z0d a0)] (z8v r)) (a0 : (List z03)) (r : (List ByteArray)) (h : z7i (n + 1) a0 = some r) : Cv Tryz.prog (GX X) 81 [xL (List.map z0d a0)] (z8v r) := by
 refine Cs.toV (?_ : Cs Tryz.prog (GX X) 81 [xL (List.map z0d a0)] [] (z8v r) (zse r)) (by kernel_rfl)
 refine fnT (cx := cx X) Tryz.f81 Tryz.call81 Tryz.func81 (by kernel_rfl) ?_
 rw [z7i] at h
 obtain ⟨v1, k1, h⟩ := z06 h
 obtain ⟨v2, k2, h⟩ := z06 h
 obtain ⟨v3, k3, h⟩ := z06 h
 obtain rfl := retE h
 exact fin (ok X) 5 [.own, .c (z67 v1), .l (List.map z1j v2), .l (List.map z1j v3)] (pA (ih_r02_stmtWords _ _ k1) (pA (apm (L := [(ByteArray.mk #[123])]) (M := v1) z1q k2) (pA (apm (L := v2) (M := [(ByteArray.mk #[125])]) z1q k3) pT))) (by kernel_rfl)

theorem zf7 : ∀ n : Nat, (∀ (a0 : (List z03)) (r : (List ByteArray)), z4b n a0 = some r → Cv Tryz.prog (GX X) 47 [xL (List.map z0d a0)] (z67 r)) ∧ (∀ (a0 : (List z03)) (r : (List ByteArray)), z7i n a0 = some r → Cv Tryz.prog (GX X) 81 [xL (List.map z0d a0)] (z8v r))
 | 0 => ⟨(fun _ _ h => by rw [z4b] at h; cases h), (fun _ _ h => by rw [z7i] at h; cases h)⟩
 | n + 1 => by
  have ih := zf7 n
  exact ⟨zmk ih.1 ih.2, zsp ih.1 ih.2⟩

theorem zml {a0 : (List z03)} {r : (List ByteArray)} (h : zfq a0 = some r) : Cv Tryz.prog (GX X) 47 [xL (List.map z0d a0)] (z67 r) := by
 obtain ⟨n, hn⟩ := unfE h
 exact (zf7 n).1 _ _ hn

theorem zsq {a0 : z0s} {r : ((List ByteArray) × Int)} (h : zgn a0 = some r) : Cv Tryz.prog (GX X) 14 [.agg (bs (z15 a0))] (zfr r) := by
 refine Cs.toV (?_ : Cs Tryz.prog (GX X) 14 [.agg (bs (z15 a0))] [] (zfr r) (zma r)) (by kernel_rfl)
 refine fnT (cx := cx X) Tryz.f14 Tryz.call14 Tryz.func14 (by kernel_rfl) ?_
 unfold zgn at h
 obtain ⟨v1, k1, h⟩ := z06 h
 refine adv (ok X) 5 [.c (zfn v1)] (pA (zso (X := X) k1) pT) (by kernel_rfl) ?_
 rcases iteE h with ⟨k2, h⟩ | ⟨k2, h⟩
 ·obtain rfl := retE h
  exact fin (ok X) 4 [.b true] (pA k2 pT) (by kernel_rfl)
 ·refine adv (ok X) 5 [.b false] (pA k2 pT) (by kernel_rfl) ?_
  refine lp (ok X) (zba a0) (fun (x1 : Int) => ⟨188, 0, [(1, [xP 0 0]), (4, [xI x1])], [oB 34 (bs (z15 a0))]⟩) (fun (j1 : Unit) => ⟨188, 0, [(1, [xP 0 0])], [oB 34 (bs (z15 a0))]⟩) zal 0 (fun _ => ⟨_, _, _, _, rfl⟩) h (by kernel_rfl) (fun x1 o h => ?_) (fun r' h => ?_) (fun j1 h => ?_)
  ·unfold zba at h
   refine adv (ok X) 3 [.i (a0.Procs.length : Int)] (pA (lm z3y a0.Procs) pT) (by kernel_rfl) ?_
   rcases iteE h with ⟨k3, h⟩ | ⟨k3, h⟩
   ·obtain ⟨v2, k4, h⟩ := z06 h
    obtain ⟨v3, k5, h⟩ := z06 h
    refine adv (ok X) 7 [.b true, .e (z3y v2), .c (z7d v3)] (pA k3 (pA (ixm z3y k4) (pA (zqx (X := X) k5) pT))) (by kernel_rfl) ?_
    refine jn (ok X) 1 (fun (j2 : Bool) => ⟨188, 0, [(1, [xP 0 0]), (4, [xI x1]), (42, [xB j2])], [oB 34 (bs (z15 a0))]⟩) h (fun j2 h => ?_) (fun j2 h => ?_)
    ·rcases iteE h with ⟨k6, h⟩ | ⟨k6, h⟩
     ·obtain rfl := retE h
      exact fin (ok X) 1 (bT 3 []) (pR 3 k6 pT) (by kernel_rfl)
     ·obtain rfl := retE h
      exact fin (ok X) 1 (bF 3 []) (pR 3 k6 pT) (by kernel_rfl)
    ·rcases iteE h with ⟨k7, h⟩ | ⟨k7, h⟩
     ·obtain rfl := retE h
      exact fin (ok X) 4 [.b true] (pA k7 pT) (by kernel_rfl)
     ·obtain rfl := retE h
      exact fin (ok X) 4 [.b false] (pA k7 pT) (by kernel_rfl)
   ·obtain rfl := retE h
    exact fin (ok X) 2 [.b false] (pA k3 pT) (by kernel_rfl)
  ·obtain rfl := retE h
   kernel_rfl
  ·refine adv (ok X) 5 [] pT (by kernel_rfl) ?_
   refine lp (ok X) (zbc a0) (fun (x3 : (Int × (List ByteArray))) => ⟨188, 0, [(1, [xP 0 0]), (7, [xR 1]), (8, [xI x3.1])], [oB 34 (bs (z15 a0)), oR true 9 1 (List.map z1j x3.2)]⟩) (fun (j3 : (List ByteArray)) => ⟨188, 0, [(1, [xP 0 0]), (7, [xR 1])], [oB 34 (bs (z15 a0)), oR true 9 1 (List.map z1j j3)]⟩) zal (0, []) (fun _ => ⟨_, _, _, _, rfl⟩) h (by kernel_rfl) (fun x3 o h => ?_) (fun r' h => ?_) (fun j3 h => ?_)
   ·unfold zbc at h
    refine adv (ok X) 3 [.i (a0.Chans.length : Int)] (pA (lm z3d a0.Chans) pT) (by kernel_rfl) ?_
    rcases iteE h with ⟨k8, h⟩ | ⟨k8, h⟩
    ·obtain ⟨v4, k9, h⟩ := z06 h
     obtain ⟨v5, k10, h⟩ := z06 h
     obtain ⟨v6, k11, h⟩ := z06 h
     obtain ⟨v7, k12, h⟩ := z06 h
     refine adv (ok X) 11 [.b true, .e (z3d v4), .o [0, 1, 2, 3, 4, 5, 6, 7, 8, 9, 10, 11, 12, 13, 14, 15, 16, 17], .e [.str v5], .c (zcs v6), .l (List.map z1j v7)] (pA k8 (pA (ixm z3d k9) (pA (ixm z1j k10) (pA (zgu (X := X) k11) (pA (apm (L := x3.2) (M := [(ByteArray.mk #[99, 104, 97, 110]), v4.Name, v5, v6, (ByteArray.mk #[102, 114, 111, 109]), v4.From, (ByteArray.mk #[116, 111]), v4.To, (ByteArray.mk #[123])]) z1q k12) pT))))) (by kernel_rfl) ?_
     refine lp (ok X) (zbb v4) (fun (x4 : (Int × (List ByteArray))) => ⟨188, 0, [(1, [xP 0 0]), (7, [xR 1]), (8, [xI x3.1]), (9, [xP 2 0]), (10, [xI x4.1])], [oB 34 (bs (z15 a0)), oR true 9 1 (List.map z1j x4.2), oB 90 (bs (z3d v4))]⟩) (fun (j4 : (List ByteArray)) => ⟨188, 0, [(1, [xP 0 0]), (7, [xR 1]), (8, [xI x3.1])], [oB 34 (bs (z15 a0)), oR true 9 1 (List.map z1j j4)]⟩) zal (0, v7) (fun _ => ⟨_, _, _, _, rfl⟩) h (by kernel_rfl) (fun x4 o h => ?_) (fun r' h => ?_) (fun j4 h => ?_)
     ·unfold zbb at h
      refine adv (ok X) 3 [.i (v4.Tags.length : Int)] (pA (lm z1j v4.Tags) pT) (by kernel_rfl) ?_
      rcases iteE h with ⟨k13, h⟩ | ⟨k13, h⟩
      ·refine adv (ok X) 3 [.b true] (pA k13 pT) (by kernel_rfl) ?_
       refine jn (ok X) 1 (fun (j5 : (List ByteArray)) => ⟨188, 0, [(1, [xP 0 0]), (7, [xR 1]), (8, [xI x3.1]), (9, [xP 2 0]), (10, [xI x4.1])], [oB 34 (bs (z15 a0)), oR true 9 1 (List.map z1j j5), oB 90 (bs (z3d v4))]⟩) h (fun j5 h => ?_) (fun j5 h => ?_)
       ·rcases iteE h with ⟨k14, h⟩ | ⟨k14, h⟩
        ·obtain ⟨v8, k15, h⟩ := z06 h
         obtain ⟨v9, k16, h⟩ := z06 h
         obtain ⟨v10, k17, h⟩ := z06 h
         obtain rfl := retE h
         exact fin (ok X) 8 [.b true, .l (List.map z1j v8), .e [.str v9], .l (List.map z1j v10)] (pA k14 (pA (apm (L := x4.2) (M := [(ByteArray.mk #[44])]) z1q k15) (pA (ixm z1j k16) (pA (apm (L := v8) (M := [v9]) z1q k17) pT)))) (by kernel_rfl)
        ·obtain ⟨v11, k18, h⟩ := z06 h
         obtain ⟨v12, k19, h⟩ := z06 h
         obtain rfl := retE h
         exact fin (ok X) 8 [.b false, .e [.str v11], .l (List.map z1j v12)] (pA k14 (pA (ixm z1j k18) (pA (apm (L := x4.2) (M := [v11]) z1q k19) pT))) (by kernel_rfl)
       ·obtain rfl := retE h
        exact fin (ok X) 1 [] pT (by kernel_rfl)
      ·obtain rfl := retE h
       exact fin (ok X) 2 [.b false] (pA k13 pT) (by kernel_rfl)
     ·cases h
     ·obtain ⟨v13, k20, h⟩ := z06 h
      obtain rfl := retE h
      exact fin (ok X) 3 [.l (List.map z1j v13)] (pA (apm (L := j4) (M := [(ByteArray.mk #[125]), (ByteArray.mk #[59])]) z1q k20) pT) (by kernel_rfl)
    ·obtain rfl := retE h
     exact fin (ok X) 2 [.b false] (pA k8 pT) (by kernel_rfl)
   ·cases h
   ·refine adv (ok X) 3 [] pT (by kernel_rfl) ?_
    refine lp (ok X) (zbe a0) (fun (x6 : (Int × (List ByteArray))) => ⟨188, 0, [(1, [xP 0 0]), (7, [xR 1]), (11, [xI x6.1])], [oB 34 (bs (z15 a0)), oR true 9 1 (List.map z1j x6.2)]⟩) (fun (j6 : (List ByteArray)) => ⟨188, 0, [(1, [xP 0 0]), (7, [xR 1])], [oB 34 (bs (z15 a0)), oR true 9 1 (List.map z1j j6)]⟩) zal (0, j3) (fun _ => ⟨_, _, _, _, rfl⟩) h (by kernel_rfl) (fun x6 o h => ?_) (fun r' h => ?_) (fun j6 h => ?_)
    ·unfold zbe at h
     refine adv (ok X) 3 [.i (a0.Rules.length : Int)] (pA (lm z2s a0.Rules) pT) (by kernel_rfl) ?_
     rcases iteE h with ⟨k21, h⟩ | ⟨k21, h⟩
     ·obtain ⟨v14, k22, h⟩ := z06 h
      obtain ⟨v15, k23, h⟩ := z06 h
      refine adv (ok X) 9 [.b true, .e (z2s v14), .l (List.map z1j v15)] (pA k21 (pA (ixm z2s k22) (pA (apm (L := x6.2) (M := [(ByteArray.mk #[114, 117, 108, 101]), v14.Chan, (ByteArray.mk #[123])]) z1q k23) pT))) (by kernel_rfl) ?_
      refine lp (ok X) (zbd a0 x6) (fun (x7 : (Int × (List ByteArray))) => ⟨188, 0, [(1, [xP 0 0]), (7, [xR 1]), (11, [xI x6.1]), (12, [xI x7.1])], [oB 34 (bs (z15 a0)), oR true 9 1 (List.map z1j x7.2)]⟩) (fun (j7 : (List ByteArray)) => ⟨188, 0, [(1, [xP 0 0]), (7, [xR 1]), (11, [xI x6.1])], [oB 34 (bs (z15 a0)), oR true 9 1 (List.map z1j j7)]⟩) zal (0, v15) (fun _ => ⟨_, _, _, _, rfl⟩) h (by kernel_rfl) (fun x7 o h => ?_) (fun r' h => ?_) (fun j7 h => ?_)
      ·unfold zbd at h
       obtain ⟨v16, k24, h⟩ := z06 h
       refine adv (ok X) 3 [.e (z2s v16), .i (v16.Moves.length : Int)] (pA (ixm z2s k24) (pA (lm z5y v16.Moves) pT)) (by kernel_rfl) ?_
       rcases iteE h with ⟨k25, h⟩ | ⟨k25, h⟩
       ·obtain ⟨v17, k26, h⟩ := z06 h
        obtain ⟨v18, k27, h⟩ := z06 h
        obtain ⟨v19, k28, h⟩ := z06 h
        obtain ⟨v20, k29, h⟩ := z06 h
        obtain ⟨v21, k30, h⟩ := z06 h
        obtain rfl := retE h
        exact fin (ok X) 9 [.b true, .e (z2s v17), .e (z5y v18), .o [0, 1, 2, 3, 4, 5, 6, 7, 8, 9, 10, 11], .c (zcs v19), .c (zcs v20), .l (List.map z1j v21)] (pA k25 (pA (ixm z2s k26) (pA (ixm z5y k27) (pA (zgu (X := X) k28) (pA (zgu (X := X) k29) (pA (apm (L := x7.2) (M := [v19, v18.Tag, v20, (ByteArray.mk #[59])]) z1q k30) pT)))))) (by kernel_rfl)
       ·obtain rfl := retE h
        exact fin (ok X) 2 [.b false] (pA k25 pT) (by kernel_rfl)
      ·cases h
      ·obtain ⟨v22, k31, h⟩ := z06 h
       obtain rfl := retE h
       exact fin (ok X) 3 [.l (List.map z1j v22)] (pA (apm (L := j7) (M := [(ByteArray.mk #[125])]) z1q k31) pT) (by kernel_rfl)
     ·obtain rfl := retE h
      exact fin (ok X) 2 [.b false] (pA k21 pT) (by kernel_rfl)
    ·cases h
    ·refine adv (ok X) 3 [] pT (by kernel_rfl) ?_
     refine lp (ok X) (zbg a0) (fun (x8 : (Int × (List ByteArray))) => ⟨188, 0, [(1, [xP 0 0]), (7, [xR 1]), (14, [xI x8.1])], [oB 34 (bs (z15 a0)), oR true 9 1 (List.map z1j x8.2)]⟩) (fun (j8 : (List ByteArray)) => ⟨188, 0, [(7, [xR 1])], [none, oR true 9 1 (List.map z1j j8)]⟩) zal (0, j6) (fun _ => ⟨_, _, _, _, rfl⟩) h (by kernel_rfl) (fun x8 o h => ?_) (fun r' h => ?_) (fun j8 h => ?_)
     ·unfold zbg at h
      refine adv (ok X) 3 [.i (a0.Procs.length : Int)] (pA (lm z3y a0.Procs) pT) (by kernel_rfl) ?_
      rcases iteE h with ⟨k32, h⟩ | ⟨k32, h⟩
      ·obtain ⟨v23, k33, h⟩ := z06 h
       obtain ⟨v24, k34, h⟩ := z06 h
       refine adv (ok X) 11 [.b true, .e (z3y v23), .l (List.map z1j v24)] (pA k32 (pA (ixm z3y k33) (pA (apm (L := x8.2) (M := [(ByteArray.mk #[112, 114, 111, 99]), v23.Name, (ByteArray.mk #[123])]) z1q k34) pT))) (by kernel_rfl) ?_
       refine lp (ok X) (zbf v23) (fun (x9 : (Int × (List ByteArray))) => ⟨188, 0, [(1, [xP 0 0]), (7, [xR 1]), (14, [xI x8.1]), (15, [xP 2 0]), (16, [xI x9.1])], [oB 34 (bs (z15 a0)), oR true 9 1 (List.map z1j x9.2), oB 53 (bs (z3y v23))]⟩) (fun (j9 : (List ByteArray)) => ⟨188, 0, [(1, [xP 0 0]), (7, [xR 1]), (14, [xI x8.1]), (15, [xP 2 0])], [oB 34 (bs (z15 a0)), oR true 9 1 (List.map z1j j9), oB 53 (bs (z3y v23))]⟩) zal (0, v24) (fun _ => ⟨_, _, _, _, rfl⟩) h (by kernel_rfl) (fun x9 o h => ?_) (fun r' h => ?_) (fun j9 h => ?_)
       ·unfold zbf at h
        refine adv (ok X) 3 [.i (v23.Vars.length : Int)] (pA (lm z1j v23.Vars) pT) (by kernel_rfl) ?_
        rcases iteE h with ⟨k35, h⟩ | ⟨k35, h⟩
        ·obtain ⟨v25, k36, h⟩ := z06 h
         obtain ⟨v26, k37, h⟩ := z06 h
         obtain rfl := retE h
         exact fin (ok X) 7 [.b true, .e [.str v25], .l (List.map z1j v26)] (pA k35 (pA (ixm z1j k36) (pA (apm (L := x9.2) (M := [(ByteArray.mk #[118, 97, 114]), v25, (ByteArray.mk #[59])]) z1q k37) pT))) (by kernel_rfl)
        ·obtain rfl := retE h
         exact fin (ok X) 2 [.b false] (pA k35 pT) (by kernel_rfl)
       ·cases h
       ·obtain ⟨v27, k38, h⟩ := z06 h
        obtain ⟨v28, k39, h⟩ := z06 h
        obtain ⟨v29, k40, h⟩ := z06 h
        obtain rfl := retE h
        exact fin (ok X) 3 [.c (z67 v27), .l (List.map z1j v28), .l (List.map z1j v29)] (pA (zml (X := X) k38) (pA (apm (L := j9) (M := v27) z1q k39) (pA (apm (L := v28) (M := [(ByteArray.mk #[125])]) z1q k40) pT))) (by kernel_rfl)
      ·obtain rfl := retE h
       exact fin (ok X) 2 [.b false] (pA k32 pT) (by kernel_rfl)
     ·cases h
     ·refine adv (ok X) 3 [.i (j8.length : Int)] (pA (lm z1j j8) pT) (by kernel_rfl) ?_
      rcases iteE h with ⟨k41, h⟩ | ⟨k41, h⟩
      ·obtain rfl := retE h
       exact fin (ok X) 4 [.b true] (pA k41 pT) (by kernel_rfl)
      ·obtain rfl := retE h
       exact fin (ok X) 5 [.b false] (pA k41 pT) (by kernel_rfl)

theorem zgv {a0 : Int} {r : Bool} (h : zdo a0 = some r) : Cv Tryz.prog (GX X) 90 [.c (.pv (.int .u8 a0))] (zct r) := by
 refine Cs.toV (?_ : Cs Tryz.prog (GX X) 90 [.c (.pv (.int .u8 a0))] [] (zct r) (zqp r)) (by kernel_rfl)
 refine fnT (cx := cx X) Tryz.f90 Tryz.call90 Tryz.func90 (by kernel_rfl) ?_
 unfold zdo at h
 rcases iteE h with ⟨k1, h⟩ | ⟨k1, h⟩
 ·obtain rfl := retE h
  exact fin (ok X) 5 (bT 3 []) (pR 3 k1 pT) (by kernel_rfl)
 ·obtain rfl := retE h
  exact fin (ok X) 5 (bF 3 []) (pR 3 k1 pT) (by kernel_rfl)

theorem zmm {a0 : Int} {r : Bool} (h : zf0 a0 = some r) : Cv Tryz.prog (GX X) 93 [.c (.pv (.int .u8 a0))] (zfs r) := by
 refine Cs.toV (?_ : Cs Tryz.prog (GX X) 93 [.c (.pv (.int .u8 a0))] [] (zfs r) (zsf r)) (by kernel_rfl)
 refine fnT (cx := cx X) Tryz.f93 Tryz.call93 Tryz.func93 (by kernel_rfl) ?_
 unfold zf0 at h
 rcases iteE h with ⟨k1, h⟩ | ⟨k1, h⟩
 ·obtain rfl := retE h
  exact fin (ok X) 5 (bT 3 []) (pR 3 k1 pT) (by kernel_rfl)
 ·obtain rfl := retE h
  exact fin (ok X) 5 (bF 3 []) (pR 3 k1 pT) (by kernel_rfl)

theorem zqy {a0 : ByteArray} {r : Int} (h : zke a0 = some r) : Cv Tryz.prog (GX X) 92 [xS a0] (zgo r) := by
 refine Cs.toV (?_ : Cs Tryz.prog (GX X) 92 [xS a0] [] (zgo r) (zqq r)) (by kernel_rfl)
 refine fnT (cx := cx X) Tryz.f92 Tryz.call92 Tryz.func92 (by kernel_rfl) ?_
 unfold zke at h
 refine adv (ok X) 5 [] pT (by kernel_rfl) ?_
 refine lp (ok X) (zcd a0) (fun (x1 : Int) => ⟨23, 0, [(0, [xS a0]), (3, [xI x1])], []⟩) (fun (j1 : Int) => ⟨23, 0, [(3, [xI j1])], []⟩) zyi 0 (fun _ => ⟨_, _, _, _, rfl⟩) h (by kernel_rfl) (fun x1 o h => ?_) (fun r' h => ?_) (fun j1 h => ?_)
 ·unfold zcd at h
  refine adv (ok X) 2 [] pT (by kernel_rfl) ?_
  refine jn (ok X) 1 (fun (j2 : Bool) => ⟨23, 0, [(0, [xS a0]), (3, [xI x1]), (19, [xB j2])], []⟩) h (fun j2 h => ?_) (fun j2 h => ?_)
  ·rcases iteE h with ⟨k1, h⟩ | ⟨k1, h⟩
   ·obtain ⟨v1, k2, h⟩ := z06 h
    obtain ⟨v2, k3, h⟩ := z06 h
    rcases iteE h with ⟨k4, h⟩ | ⟨k4, h⟩
    ·obtain rfl := retE h
     exact fin (ok X) 1 (bT 3 (.i v1 :: .b true :: .c (zct v2) :: bT 8 [])) (pR 3 k1 (pA k2 (pA k1 (pA (zgv (X := X) k3) (pA k1 (pR 4 k4 (pA k1 (pA k4 (pA k1 pT))))))))) (by kernel_rfl)
    ·obtain ⟨v3, k5, h⟩ := z06 h
     obtain ⟨v4, k6, h⟩ := z06 h
     obtain rfl := retE h
     exact fin (ok X) 1 (bT 3 (.i v1 :: .b true :: .c (zct v2) :: .b true :: bF 3 [.i v3, .b false, .c (zfs v4), .b true, .b false, .b true])) (pR 3 k1 (pA k2 (pA k1 (pA (zgv (X := X) k3) (pA k1 (pR 3 k4 (pA k5 (pA k4 (pA (zmm (X := X) k6) (pA k1 (pA k4 (pA k1 pT)))))))))))) (by kernel_rfl)
   ·obtain rfl := retE h
    exact fin (ok X) 1 (bF 7 []) (pR 7 k1 pT) (by kernel_rfl)
  ·rcases iteE h with ⟨k7, h⟩ | ⟨k7, h⟩
   ·obtain rfl := retE h
    exact fin (ok X) 5 [.b true] (pA k7 pT) (by kernel_rfl)
   ·obtain rfl := retE h
    exact fin (ok X) 2 [.b false] (pA k7 pT) (by kernel_rfl)
 ·cases h
 ·obtain rfl := retE h
  exact fin (ok X) 3 [] pT (by kernel_rfl)
end Go.Proofs.YtokjbpmjdcbogaaGreatDoor.Abs

/- Gw: the functions are these. -/
import Derived.Test.YtokjbpmjdcbogaaGreatDoorGwW0
namespace Go.Proofs.YtokjbpmjdcbogaaGreatDoor.Abs
open Go Go.RowKit
set_option linter.unusedVariables false
set_option maxRecDepth 100000
set_option maxHeartbeats 4000000
variable {X : EV}
theorem z59 {a0 : z00} {a1 : ByteArray} {r : Bool} (h : z30 a0 a1 = some r) : Cs Tryz.prog (GX X) 56 [xP 0 0, xS a1] [oB 71 (bs (z02 a0))] (z4s r) (z4t a0 r) := by
 refine fnT (cx := cx X) Tryz.f56 Tryz.call56 Tryz.func56 (by kernel_rfl) ?_
 unfold z30 at h
 rcases iteE h with ⟨k1, h⟩ | ⟨k1, h⟩
 ·rcases iteE h with ⟨k2, h⟩ | ⟨k2, h⟩
  ·obtain ⟨v1, k3, h⟩ := z06 h
   rcases iteE h with ⟨k4, h⟩ | ⟨k4, h⟩
   ·obtain ⟨v2, k5, h⟩ := z06 h
    obtain rfl := retE h
    exact fin (ok X) 5 (bT 5 (.i (a0.f_l.length : Int) :: bT 7 (.e (z1c v1) :: bT 9 (.e (z1c v2) :: bT 5 [])))) (pR 5 k1 (pA (lm z1c a0.f_l) (pA k1 (pA k1 (pR 5 k2 (pA (ixm z1c k3) (pR 4 k2 (pR 5 k4 (pA (ixm z1c k5) (pR 5 k4 pT)))))))))) (by kernel_rfl)
   ·obtain rfl := retE h
    exact fin (ok X) 5 (bT 5 (.i (a0.f_l.length : Int) :: bT 7 (.e (z1c v1) :: bT 4 (bF 10 [])))) (pR 5 k1 (pA (lm z1c a0.f_l) (pA k1 (pA k1 (pR 5 k2 (pA (ixm z1c k3) (pR 4 k2 (pR 10 k4 pT)))))))) (by kernel_rfl)
  ·obtain rfl := retE h
   exact fin (ok X) 5 (bT 5 (.i (a0.f_l.length : Int) :: .b true :: .b true :: bF 19 [])) (pR 5 k1 (pA (lm z1c a0.f_l) (pA k1 (pA k1 (pR 9 k2 (pR 10 ff pT)))))) (by kernel_rfl)
 ·obtain rfl := retE h
  exact fin (ok X) 5 (bF 26 []) (pR 7 k1 (pR 19 ff pT)) (by kernel_rfl)

theorem z2n {a0 : z00} {a1 : ByteArray} {r : (z00 × Bool)} (h : z0g a0 a1 = some r) : Cs Tryz.prog (GX X) 20 [xP 0 0, xS a1] [oB 71 (bs (z02 a0))] (z2c r) (z2d r) := by
 refine fnT (cx := cx X) Tryz.f20 Tryz.call20 Tryz.func20 (by kernel_rfl) ?_
 unfold z0g at h
 obtain ⟨v1, k1, h⟩ := z06 h
 refine adv (ok X) 5 [.s (z4s v1) (z4t a0 v1)] (pA (z59 (X := X) k1) pT) (by kernel_rfl) ?_
 rcases iteE h with ⟨k2, h⟩ | ⟨k2, h⟩
 ·obtain rfl := retE h
  exact fin (ok X) 4 [.b true] (pA k2 pT) (by kernel_rfl)
 ·obtain ⟨v2, k3, h⟩ := z06 h
  obtain rfl := retE h
  exact fin (ok X) 7 [.b false, .l (List.map z1c v2)] (pA k2 (pA (lsm0 z1c k3) (pA (lnm zbt a0.f_l) pT))) (by kernel_rfl)

theorem zah {a0 : z00} {a1 : Int} {r : Bool} (h : z5j a0 a1 = some r) : Cs Tryz.prog (GX X) 115 [xP 0 0, xI a1] [oB 71 (bs (z02 a0))] (z8j r) (z8k a0 r) := by
 refine fnT (cx := cx X) Tryz.f115 Tryz.call115 Tryz.func115 (by kernel_rfl) ?_
 unfold z5j at h
 rcases iteE h with ⟨k1, h⟩ | ⟨k1, h⟩
 ·rcases iteE h with ⟨k2, h⟩ | ⟨k2, h⟩
  ·obtain ⟨v1, k3, h⟩ := z06 h
   obtain rfl := retE h
   exact fin (ok X) 5 (bT 5 (.i (a0.f_l.length : Int) :: bT 7 (.e (z1c v1) :: bT 5 []))) (pR 5 k1 (pA (lm z1c a0.f_l) (pA k1 (pA k1 (pR 5 k2 (pA (ixm z1c k3) (pR 5 k2 pT))))))) (by kernel_rfl)
  ·obtain rfl := retE h
   exact fin (ok X) 5 (bT 5 (.i (a0.f_l.length : Int) :: .b true :: .b true :: bF 10 [])) (pR 5 k1 (pA (lm z1c a0.f_l) (pA k1 (pA k1 (pR 10 k2 pT))))) (by kernel_rfl)
 ·obtain rfl := retE h
  exact fin (ok X) 5 (bF 17 []) (pR 7 k1 (pR 10 ff pT)) (by kernel_rfl)

theorem z5a {a0 : z00} {a1 : Int} {r : z00} (h : z29 a0 a1 = some r) : Cs Tryz.prog (GX X) 24 [xP 0 0, xI a1] [oB 71 (bs (z02 a0))] (z4u r) (z4v r) := by
 refine fnT (cx := cx X) Tryz.f24 Tryz.call24 Tryz.func24 (by kernel_rfl) ?_
 unfold z29 at h
 rcases iteE h with ⟨k1, h⟩ | ⟨k1, h⟩
 ·obtain rfl := retE h
  exact fin (ok X) 5 [.b true] (pA k1 pT) (by kernel_rfl)
 ·refine adv (ok X) 9 [.b false, .i (a0.f_l.length : Int)] (pA k1 (pA (lm z1c a0.f_l) pT)) (by kernel_rfl) ?_
  rcases iteE h with ⟨k2, h⟩ | ⟨k2, h⟩
  ·obtain ⟨v1, k3, h⟩ := z06 h
   obtain rfl := retE h
   exact fin (ok X) 2 [.b true, .e (z1c v1)] (pA k2 (pA (ixm z1c k3) pT)) (by kernel_rfl)
  ·obtain rfl := retE h
   exact fin (ok X) 2 [.b false] (pA k2 pT) (by kernel_rfl)

theorem zbv {a0 : z00} {a1 : Int} {r : (z00 × z0e)} (h : z5d a0 a1 = some r) : Cs Tryz.prog (GX X) 96 [xP 0 0, xI a1] [oB 71 (bs (z02 a0))] (z9a r) (z9b r) := by
 refine fnT (cx := cx X) Tryz.f96 Tryz.call96 Tryz.func96 (by kernel_rfl) ?_
 unfold z5d at h
 obtain ⟨v1, k1, h⟩ := z06 h
 refine adv (ok X) 5 [.s (z8j v1) (z8k a0 v1)] (pA (zah (X := X) k1) pT) (by kernel_rfl) ?_
 rcases iteE h with ⟨k2, h⟩ | ⟨k2, h⟩
 ·obtain ⟨v2, k3, h⟩ := z06 h
  obtain rfl := retE h
  exact fin (ok X) 6 [.b true, .s (z4u v2) (z4v v2)] (pA k2 (pA (z5a (X := X) k3) pT)) (by kernel_rfl)
 ·obtain ⟨v3, k4, h⟩ := z06 h
  obtain ⟨v4, k5, h⟩ := z06 h
  obtain rfl := retE h
  exact fin (ok X) 9 [.b false, .e (z1c v3), .l (List.map z1c v4)] (pA k2 (pA (ixm z1c k4) (pA (lsm0 z1c k5) (pA (lnm zbt a0.f_l) pT)))) (by kernel_rfl)

theorem z22 {a0 : z00} {r : (z00 × ByteArray)} (h : z0f a0 = some r) : Cs Tryz.prog (GX X) 57 [xP 0 0] [oB 71 (bs (z02 a0))] (z1s r) (z1t r) := by
 refine fnT (cx := cx X) Tryz.f57 Tryz.call57 Tryz.func57 (by kernel_rfl) ?_
 unfold z0f at h
 obtain ⟨v1, k1, h⟩ := z06 h
 obtain rfl := retE h
 exact fin (ok X) 5 [.s (z9a v1) (z9b v1)] (pA (zbv (X := X) k1) pT) (by kernel_rfl)

theorem z6n {a0 : (List ByteArray)} {a1010 : z00} {r : (z00 × Int)} (h : z26 a0 a1010 = some r) : Cs Tryz.prog (GX X) 97 [xL (List.map z0v a0), .fn (.func 20) [.box 0 0] []] [oB 71 (bs (z02 a1010))] (z3f r) (z3g r) := by
 refine fnT (cx := cx X) Tryz.f97 Tryz.call97 Tryz.func97 (by kernel_rfl) ?_
 unfold z26 at h
 refine adv (ok X) 5 [.i (a0.length : Int)] (pA (lm z0v a0) pT) (by kernel_rfl) ?_
 refine lp (ok X) (z0l a0) (fun (x1 : (Int × (List z0e) × Int × Int × Int × Int × Int)) => ⟨19, 1, [(0, [xL (List.map z0v a0)]), (1, [.fn (.func 20) [.box 0 0] []]), (7, [xI (a0.length : Int)]), (8, [xI x1.1])], [oB 71 (bs (z02 (z00.mk x1.2.1 x1.2.2.1 x1.2.2.2.1 x1.2.2.2.2.1 x1.2.2.2.2.2.1 x1.2.2.2.2.2.2)))]⟩) (fun (j1 : ((List z0e) × Int × Int × Int × Int × Int)) => ⟨19, 1, [], [oB 71 (bs (z02 (z00.mk j1.1 j1.2.1 j1.2.2.1 j1.2.2.2.1 j1.2.2.2.2.1 j1.2.2.2.2.2)))]⟩) z6k (0, a1010.f_l, a1010.f_end, a1010.f_e, a1010.f_at, a1010.f_deep, a1010.f_in) (fun _ => ⟨_, _, _, _, rfl⟩) h (by kernel_rfl) (fun x1 o h => ?_) (fun r' h => ?_) (fun j1 h => ?_)
 ·unfold z0l at h
  rcases iteE h with ⟨k1, h⟩ | ⟨k1, h⟩
  ·obtain ⟨v1, k2, h⟩ := z06 h
   obtain ⟨v2, k3, h⟩ := z06 h
   refine adv (ok X) 11 [.b true, .e [.str v1], .s (z2c v2) (z2d v2)] (pA k1 (pA (ixm z0v k2) (pA (z2n (X := X) k3) pT))) (by kernel_rfl) ?_
   rcases iteE h with ⟨k4, h⟩ | ⟨k4, h⟩
   ·obtain rfl := retE h
    exact fin (ok X) 4 [.b true] (pA k4 pT) (by kernel_rfl)
   ·obtain rfl := retE h
    exact fin (ok X) 4 [.b false] (pA k4 pT) (by kernel_rfl)
  ·obtain rfl := retE h
   exact fin (ok X) 5 [.b false] (pA k1 pT) (by kernel_rfl)
 ·obtain rfl := retE h
  kernel_rfl
 ·obtain rfl := retE h
  exact fin (ok X) 3 [] pT (by kernel_rfl)

theorem z77 {a0 : z00} {a1 : (List ByteArray)} {r : (z00 × Int)} (h : z1o a0 a1 = some r) : Cs Tryz.prog (GX X) 58 [xP 0 0, xL (List.map z0v a1)] [oB 71 (bs (z02 a0))] (z69 r) (z6a r) := by
 refine fnT (cx := cx X) Tryz.f58 Tryz.call58 Tryz.func58 (by kernel_rfl) ?_
 unfold z1o at h
 obtain ⟨v1, k1, h⟩ := z06 h
 obtain rfl := retE h
 exact fin (ok X) 5 [.s (z3f v1) (z3g v1)] (pA (z6n (X := X) k1) pT) (by kernel_rfl)

theorem z6y {a0 : z00} {r : (z00 × Int)} (h : z1z a0 = some r) : Cs Tryz.prog (GX X) 59 [xP 0 0] [oB 71 (bs (z02 a0))] (z60 r) (z61 r) := by
 refine fnT (cx := cx X) Tryz.f59 Tryz.call59 Tryz.func59 (by kernel_rfl) ?_
 unfold z1z at h
 obtain ⟨v1, k1, h⟩ := z06 h
 obtain rfl := retE h
 exact fin (ok X) 5 [.s (z9a v1) (z9b v1)] (pA (zbv (X := X) k1) pT) (by kernel_rfl)

theorem z0q {a0 : z00} {a1 : ByteArray} {r : z00} (h : z05 a0 a1 = some r) : Cs Tryz.prog (GX X) 60 [xP 0 0, xS a1] [oB 71 (bs (z02 a0))] (z0n r) (z0o r) := by
 refine fnT (cx := cx X) Tryz.f60 Tryz.call60 Tryz.func60 (by kernel_rfl) ?_
 unfold z05 at h
 obtain ⟨v1, k1, h⟩ := z06 h
 refine adv (ok X) 2 [.s (z2c v1) (z2d v1)] (pA (z2n (X := X) k1) pT) (by kernel_rfl) ?_
 rcases iteE h with ⟨k2, h⟩ | ⟨k2, h⟩
 ·obtain ⟨v2, k3, h⟩ := z06 h
  obtain rfl := retE h
  exact fin (ok X) 2 [.b true, .s (z4u v2) (z4v v2)] (pA k2 (pA (z5a (X := X) k3) pT)) (by kernel_rfl)
 ·obtain rfl := retE h
  exact fin (ok X) 2 [.b false] (pA k2 pT) (by kernel_rfl)

theorem zdm {a0 : z00} {r : (z00 × z23)} (h : z5l a0 = some r) : Cs Tryz.prog (GX X) 21 [xP 0 0] [oB 71 (bs (z02 a0))] (z7q r) (z7r r) := by
 refine fnT (cx := cx X) Tryz.f21 Tryz.call21 Tryz.func21 (by kernel_rfl) ?_
 unfold z5l at h
 obtain ⟨v1, k1, h⟩ := z06 h
 obtain ⟨v2, k2, h⟩ := z06 h
 refine adv (ok X) 9 [.s (z1s v1) (z1t v1), .s (z69 v2) (z6a v2)] (pA (z22 (X := X) k1) (pA (z77 (X := X) k2) pT)) (by kernel_rfl) ?_
 rcases iteE h with ⟨k3, h⟩ | ⟨k3, h⟩
 ·obtain ⟨v3, k4, h⟩ := z06 h
  obtain rfl := retE h
  exact fin (ok X) 6 [.b true, .s (z4u v3) (z4v v3)] (pA k3 (pA (z5a (X := X) k4) pT)) (by kernel_rfl)
 ·obtain ⟨v4, k5, h⟩ := z06 h
  obtain ⟨v5, k6, h⟩ := z06 h
  obtain ⟨v6, k7, h⟩ := z06 h
  obtain ⟨v7, k8, h⟩ := z06 h
  obtain ⟨v8, k9, h⟩ := z06 h
  obtain ⟨v9, k10, h⟩ := z06 h
  obtain ⟨v10, k11, h⟩ := z06 h
  obtain ⟨v11, k12, h⟩ := z06 h
  refine adv (ok X) 17 [.b false, .s (z60 v4) (z61 v4), .s (z0n v5) (z0o v5), .s (z1s v6) (z1t v6), .s (z0n v7) (z0o v7), .s (z1s v8) (z1t v8), .s (z0n v9) (z0o v9), .o [0, 1, 2, 3, 4, 5, 6, 7], .s (z1s v10) (z1t v10), .l (List.map z0v v11)] (pA k3 (pA (z6y (X := X) k5) (pA (z0q (X := X) k6) (pA (z22 (X := X) k7) (pA (z0q (X := X) k8) (pA (z22 (X := X) k9) (pA (z0q (X := X) k10) (pA (z22 (X := X) k11) (pA (apm (L := []) (M := [v10.2]) zcp k12) pT))))))))) (by kernel_rfl) ?_
  refine lp (ok X) (z24) (fun (x1 : ((List z0e) × Int × Int × Int × Int × Int × (List ByteArray))) => ⟨53, 1, [(0, [xP 0 0]), (2, [xP 1 0]), (3, [xP 2 0])], [oB 71 (bs (z02 (z00.mk x1.1 x1.2.1 x1.2.2.1 x1.2.2.2.1 x1.2.2.2.2.1 x1.2.2.2.2.2.1))), oB 73 [.pv (.str (ByteArray.mk #[])), .pv (.int .i64 0), .pv (.int .i64 0), .pv (.str (ByteArray.mk #[])), .pv (.str (ByteArray.mk #[])), .emp], oB 73 [.pv (.str v1.2), .pv (.int .i64 v2.2), .pv (.int .i64 v4.2), .pv (.str v6.2), .pv (.str v8.2), .row 3], oR true 9 1 (List.map z0v x1.2.2.2.2.2.2)]⟩) (fun (j1 : ((List z0e) × Int × Int × Int × Int × Int × (List ByteArray))) => ⟨53, 1, [(0, [xP 0 0]), (2, [xP 1 0]), (3, [xP 2 0])], [oB 71 (bs (z02 (z00.mk j1.1 j1.2.1 j1.2.2.1 j1.2.2.2.1 j1.2.2.2.2.1 j1.2.2.2.2.2.1))), oB 73 [.pv (.str (ByteArray.mk #[])), .pv (.int .i64 0), .pv (.int .i64 0), .pv (.str (ByteArray.mk #[])), .pv (.str (ByteArray.mk #[])), .emp], oB 73 [.pv (.str v1.2), .pv (.int .i64 v2.2), .pv (.int .i64 v4.2), .pv (.str v6.2), .pv (.str v8.2), .row 3], oR true 9 1 (List.map z0v j1.2.2.2.2.2.2)]⟩) zdi (v10.1.f_l, v10.1.f_end, v10.1.f_e, v10.1.f_at, v10.1.f_deep, v10.1.f_in, v11) (fun _ => ⟨_, _, _, _, rfl⟩) h (by kernel_rfl) (fun x1 o h => ?_) (fun r' h => ?_) (fun j1 h => ?_)
  ·unfold z24 at h
   obtain ⟨v12, k13, h⟩ := z06 h
   refine adv (ok X) 3 [.s (z2c v12) (z2d v12)] (pA (z2n (X := X) k13) pT) (by kernel_rfl) ?_
   rcases iteE h with ⟨k14, h⟩ | ⟨k14, h⟩
   ·obtain ⟨v13, k15, h⟩ := z06 h
    obtain ⟨v14, k16, h⟩ := z06 h
    obtain rfl := retE h
    exact fin (ok X) 5 [.b true, .o [0, 1, 2, 3, 4, 5, 6, 7], .s (z1s v13) (z1t v13), .l (List.map z0v v14)] (pA k14 (pA (z22 (X := X) k15) (pA (apm (L := x1.2.2.2.2.2.2) (M := [v13.2]) zcp k16) pT))) (by kernel_rfl)
   ·obtain rfl := retE h
    exact fin (ok X) 2 [.b false] (pA k14 pT) (by kernel_rfl)
  ·cases h
  ·obtain ⟨v15, k17, h⟩ := z06 h
   obtain ⟨v16, k18, h⟩ := z06 h
   obtain rfl := retE h
   exact fin (ok X) 7 [.s (z0n v15) (z0o v15), .s (z0n v16) (z0o v16)] (pA (z0q (X := X) k17) (pA (z0q (X := X) k18) pT)) (by kernel_rfl)

theorem zfw {a0 : z00} {r : (z00 × z2g)} (h : z6f a0 = some r) : Cs Tryz.prog (GX X) 22 [xP 0 0] [oB 71 (bs (z02 a0))] (z9c r) (z9d r) := by
 refine fnT (cx := cx X) Tryz.f22 Tryz.call22 Tryz.func22 (by kernel_rfl) ?_
 unfold z6f at h
 obtain ⟨v1, k1, h⟩ := z06 h
 obtain ⟨v2, k2, h⟩ := z06 h
 refine adv (ok X) 7 [.s (z1s v1) (z1t v1), .s (z0n v2) (z0o v2)] (pA (z22 (X := X) k1) (pA (z0q (X := X) k2) pT)) (by kernel_rfl) ?_
 refine lp (ok X) (z39) (fun (x1 : ((List z0e) × Int × Int × Int × Int × Int × (List z3s))) => ⟨38, 1, [(0, [xP 0 0]), (2, [xP 1 0]), (3, [xP 2 0])], [oB 71 (bs (z02 (z00.mk x1.1 x1.2.1 x1.2.2.1 x1.2.2.2.1 x1.2.2.2.2.1 x1.2.2.2.2.2.1))), oB 77 [.pv (.str (ByteArray.mk #[])), .emp], oB 77 [.pv (.str v1.2), .row 3], oR true 111 3 (List.map z3o x1.2.2.2.2.2.2)]⟩) (fun (j1 : ((List z0e) × Int × Int × Int × Int × Int × (List z3s))) => ⟨38, 1, [(0, [xP 0 0]), (2, [xP 1 0]), (3, [xP 2 0])], [oB 71 (bs (z02 (z00.mk j1.1 j1.2.1 j1.2.2.1 j1.2.2.2.1 j1.2.2.2.2.1 j1.2.2.2.2.2.1))), oB 77 [.pv (.str (ByteArray.mk #[])), .emp], oB 77 [.pv (.str v1.2), .row 3], oR true 111 3 (List.map z3o j1.2.2.2.2.2.2)]⟩) zfs (v2.f_l, v2.f_end, v2.f_e, v2.f_at, v2.f_deep, v2.f_in, []) (fun _ => ⟨_, _, _, _, rfl⟩) h (by kernel_rfl) (fun x1 o h => ?_) (fun r' h => ?_) (fun j1 h => ?_)
 ·unfold z39 at h
  refine adv (ok X) 2 [] pT (by kernel_rfl) ?_
  refine jn (ok X) 1 (fun (j2 : Bool) => ⟨38, 1, [(0, [xP 0 0]), (2, [xP 1 0]), (3, [xP 2 0]), (19, [xB j2])], [oB 71 (bs (z02 (z00.mk x1.1 x1.2.1 x1.2.2.1 x1.2.2.2.1 x1.2.2.2.2.1 x1.2.2.2.2.2.1))), oB 77 [.pv (.str (ByteArray.mk #[])), .emp], oB 77 [.pv (.str v1.2), .row 3], oR true 111 3 (List.map z3o x1.2.2.2.2.2.2)]⟩) h (fun j2 h => ?_) (fun j2 h => ?_)
  ·rcases iteE h with ⟨k3, h⟩ | ⟨k3, h⟩
   ·obtain ⟨v3, k4, h⟩ := z06 h
    obtain rfl := retE h
    exact fin (ok X) 1 [.b true, .b true, .s (z4s v3) (z4t (z00.mk x1.1 x1.2.1 x1.2.2.1 x1.2.2.2.1 x1.2.2.2.2.1 x1.2.2.2.2.2.1) v3), .b true, .b true] (pA k3 (pA k3 (pA (z59 (X := X) k4) (pA k3 (pA k3 pT))))) (by kernel_rfl)
   ·obtain rfl := retE h
    exact fin (ok X) 1 (bF 4 []) (pR 4 k3 pT) (by kernel_rfl)
  ·rcases iteE h with ⟨k5, h⟩ | ⟨k5, h⟩
   ·obtain ⟨v4, k6, h⟩ := z06 h
    obtain ⟨v5, k7, h⟩ := z06 h
    obtain ⟨v6, k8, h⟩ := z06 h
    obtain ⟨v7, k9, h⟩ := z06 h
    obtain ⟨v8, k10, h⟩ := z06 h
    obtain rfl := retE h
    exact fin (ok X) 9 [.b true, .s (z60 v4) (z61 v4), .s (z1s v5) (z1t v5), .s (z60 v6) (z61 v6), .s (z0n v7) (z0o v7), .l (List.map z3o v8)] (pA k5 (pA (z6y (X := X) k6) (pA (z22 (X := X) k7) (pA (z6y (X := X) k8) (pA (z0q (X := X) k9) (pA (apm (L := x1.2.2.2.2.2.2) (M := [(z3s.mk v4.2 v5.2 v6.2)]) zfd k10) pT)))))) (by kernel_rfl)
   ·obtain rfl := retE h
    exact fin (ok X) 2 [.b false] (pA k5 pT) (by kernel_rfl)
 ·cases h
 ·obtain ⟨v9, k11, h⟩ := z06 h
  obtain rfl := retE h
  exact fin (ok X) 5 [.s (z0n v9) (z0o v9)] (pA (z0q (X := X) k11) pT) (by kernel_rfl)

theorem zb6 {a0 : z00} {r : (z00 × Bool)} (h : z64 a0 = some r) : Cs Tryz.prog (GX X) 187 [xP 0 0] [oB 71 (bs (z02 a0))] (z8r r) (z8s r) := by
 refine fnT (cx := cx X) Tryz.f187 Tryz.call187 Tryz.func187 (by kernel_rfl) ?_
 unfold z64 at h
 rcases iteE h with ⟨k1, h⟩ | ⟨k1, h⟩
 ·obtain ⟨v1, k2, h⟩ := z06 h
  obtain rfl := retE h
  exact fin (ok X) 11 [.b true, .s (z4u v1) (z4v v1)] (pA k1 (pA (z5a (X := X) k2) pT)) (by kernel_rfl)
 ·obtain rfl := retE h
  exact fin (ok X) 12 [.b false] (pA k1 pT) (by kernel_rfl)

theorem zfx {n : Nat} (ih_parse_reader_expr : ∀ (a0 : z00) (r : (z00 × z04)), z1a n a0 = some r → Cs Tryz.prog (GX X) 141 [xP 0 0] [oB 71 (bs (z02 a0))] (z2e r) (z2f r)) (ih_parse_reader_chain_parse_reader_term : ∀ (a0 : z00) (a2 : (List ByteArray)) (a3 : Int) (r : (z00 × z04)), z09 n a0 a2 a3 = some r → Cs Tryz.prog (GX X) 160 [xP 0 0, .fn (.func 161) [.box 0 0] [], xL (List.map z0v a2), xI a3] [oB 71 (bs (z02 a0))] (z11 r) (z12 r)) (ih_parse_reader_term : ∀ (a0 : z00) (r : (z00 × z04)), z15 n a0 = some r → Cs Tryz.prog (GX X) 161 [xP 0 0] [oB 71 (bs (z02 a0))] (z3h r) (z3i r)) (ih_parse_reader_chain_parse_reader_factor : ∀ (a0 : z00) (a2 : (List ByteArray)) (a3 : Int) (r : (z00 × z04)), z08 n a0 a2 a3 = some r → Cs Tryz.prog (GX X) 160 [xP 0 0, .fn (.func 174) [.box 0 0] [], xL (List.map z0v a2), xI a3] [oB 71 (bs (z02 a0))] (z0x r) (z0y r)) (ih_parse_reader_factor : ∀ (a0 : z00) (r : (z00 × z04)), z0h n a0 = some r → Cs Tryz.prog (GX X) 174 [xP 0 0] [oB 71 (bs (z02 a0))] (z2v r) (z2w r)) (ih_parse_reader_negated : ∀ (a0 : z00) (r : (z00 × z04)), z17 n a0 = some r → Cs Tryz.prog (GX X) 183 [xP 0 0] [oB 71 (bs (z02 a0))] (z36 r) (z38 r)) (ih_parse_reader_parens : ∀ (a0 : z00) (r : (z00 × z04)), z1b n a0 = some r → Cs Tryz.prog (GX X) 184 [xP 0 0] [oB 71 (bs (z02 a0))] (z3b r) (z3c r)) (a0 : z00) (r : (z00 × z04)) (h : z1a (n + 1) a0 = some r) : Cs Tryz.prog (GX X) 141 [xP 0 0] [oB 71 (bs (z02 a0))] (z2e r) (z2f r) := by
 refine fnT (cx := cx X) Tryz.f141 Tryz.call141 Tryz.func141 (by kernel_rfl) ?_
 rw [z1a] at h
 obtain ⟨v1, k1, h⟩ := z06 h
 obtain rfl := retE h
 exact fin (ok X) 5 [.s (z11 v1) (z12 v1)] (pA (ih_parse_reader_chain_parse_reader_term _ _ _ _ k1) pT) (by kernel_rfl)

theorem z8m {n : Nat} (ih_parse_reader_expr : ∀ (a0 : z00) (r : (z00 × z04)), z1a n a0 = some r → Cs Tryz.prog (GX X) 141 [xP 0 0] [oB 71 (bs (z02 a0))] (z2e r) (z2f r)) (ih_parse_reader_chain_parse_reader_term : ∀ (a0 : z00) (a2 : (List ByteArray)) (a3 : Int) (r : (z00 × z04)), z09 n a0 a2 a3 = some r → Cs Tryz.prog (GX X) 160 [xP 0 0, .fn (.func 161) [.box 0 0] [], xL (List.map z0v a2), xI a3] [oB 71 (bs (z02 a0))] (z11 r) (z12 r)) (ih_parse_reader_term : ∀ (a0 : z00) (r : (z00 × z04)), z15 n a0 = some r → Cs Tryz.prog (GX X) 161 [xP 0 0] [oB 71 (bs (z02 a0))] (z3h r) (z3i r)) (ih_parse_reader_chain_parse_reader_factor : ∀ (a0 : z00) (a2 : (List ByteArray)) (a3 : Int) (r : (z00 × z04)), z08 n a0 a2 a3 = some r → Cs Tryz.prog (GX X) 160 [xP 0 0, .fn (.func 174) [.box 0 0] [], xL (List.map z0v a2), xI a3] [oB 71 (bs (z02 a0))] (z0x r) (z0y r)) (ih_parse_reader_factor : ∀ (a0 : z00) (r : (z00 × z04)), z0h n a0 = some r → Cs Tryz.prog (GX X) 174 [xP 0 0] [oB 71 (bs (z02 a0))] (z2v r) (z2w r)) (ih_parse_reader_negated : ∀ (a0 : z00) (r : (z00 × z04)), z17 n a0 = some r → Cs Tryz.prog (GX X) 183 [xP 0 0] [oB 71 (bs (z02 a0))] (z36 r) (z38 r)) (ih_parse_reader_parens : ∀ (a0 : z00) (r : (z00 × z04)), z1b n a0 = some r → Cs Tryz.prog (GX X) 184 [xP 0 0] [oB 71 (bs (z02 a0))] (z3b r) (z3c r)) (a0 : z00) (a2 : (List ByteArray)) (a3 : Int) (r : (z00 × z04)) (h : z09 (n + 1) a0 a2 a3 = some r) : Cs Tryz.prog (GX X) 160 [xP 0 0, .fn (.func 161) [.box 0 0] [], xL (List.map z0v a2), xI a3] [oB 71 (bs (z02 a0))] (z11 r) (z12 r) := by
 refine fnT (cx := cx X) Tryz.f160 Tryz.call160 Tryz.func160 (by kernel_rfl) ?_
 rw [z09] at h
 obtain ⟨v1, k1, h⟩ := z06 h
 refine adv (ok X) 5 [.s (z3h v1) (z3i v1)] (pA (ih_parse_reader_term _ _ k1) pT) (by kernel_rfl) ?_
 refine lp (ok X) (z2k (z1a n) (z09 n) (z15 n) (z08 n) (z0h n) (z17 n) (z1b n) a2 a3) (fun (x1 : ((List z0e) × Int × Int × Int × Int × Int × Int × Int × ByteArray × (List z04))) => ⟨32, 1, [(0, [xP 0 0]), (1, [.fn (.func 161) [.box 0 0] []]), (2, [xL (List.map z0v a2)]), (3, [xI a3]), (8, [xP 1 0]), (9, [xP 2 0])], [oB 71 (bs (z02 (z00.mk x1.1 x1.2.1 x1.2.2.1 x1.2.2.2.1 x1.2.2.2.2.1 x1.2.2.2.2.2.1))), oB 103 [.pv (.int .i64 0), .pv (.int .i64 0), .pv (.str (ByteArray.mk #[])), .emp], oB 103 (bs (z0d (z04.mk x1.2.2.2.2.2.2.1 x1.2.2.2.2.2.2.2.1 x1.2.2.2.2.2.2.2.2.1 x1.2.2.2.2.2.2.2.2.2)))]⟩) (fun (j1 : ((List z0e) × Int × Int × Int × Int × Int × Int × Int × ByteArray × (List z04))) => ⟨32, 1, [(8, [xP 1 0]), (9, [xP 2 0])], [oB 71 (bs (z02 (z00.mk j1.1 j1.2.1 j1.2.2.1 j1.2.2.2.1 j1.2.2.2.2.1 j1.2.2.2.2.2.1))), oB 103 [.pv (.int .i64 0), .pv (.int .i64 0), .pv (.str (ByteArray.mk #[])), .emp], oB 103 (bs (z0d (z04.mk j1.2.2.2.2.2.2.1 j1.2.2.2.2.2.2.2.1 j1.2.2.2.2.2.2.2.2.1 j1.2.2.2.2.2.2.2.2.2)))]⟩) z8l (v1.1.f_l, v1.1.f_end, v1.1.f_e, v1.1.f_at, v1.1.f_deep, v1.1.f_in, v1.2.Kind, v1.2.Num, v1.2.Name, v1.2.Kids) (fun _ => ⟨_, _, _, _, rfl⟩) h (by kernel_rfl) (fun x1 o h => ?_) (fun r' h => ?_) (fun j1 h => ?_)
 ·unfold z2k at h
  rcases iteE h with ⟨k2, h⟩ | ⟨k2, h⟩
  ·obtain ⟨v2, k3, h⟩ := z06 h
   refine adv (ok X) 11 [.b true, .s (z69 v2) (z6a v2)] (pA k2 (pA (z77 (X := X) k3) pT)) (by kernel_rfl) ?_
   rcases iteE h with ⟨k4, h⟩ | ⟨k4, h⟩
   ·obtain rfl := retE h
    exact fin (ok X) 2 [.b true] (pA k4 pT) (by kernel_rfl)
   ·obtain ⟨v3, k5, h⟩ := z06 h
    obtain rfl := retE h
    exact fin (ok X) 4 [.b false, .o [0, 1, 2, 3, 4, 5, 6, 7, 8], .s (z3h v3) (z3i v3), .bl (List.map z0w [(z04.mk x1.2.2.2.2.2.2.1 x1.2.2.2.2.2.2.2.1 x1.2.2.2.2.2.2.2.2.1 x1.2.2.2.2.2.2.2.2.2), v3.2])] (pA k4 (pA (ih_parse_reader_term _ _ k5) (pA (blc (e := z0w) (x := (z04.mk x1.2.2.2.2.2.2.1 x1.2.2.2.2.2.2.2.1 x1.2.2.2.2.2.2.2.2.1 x1.2.2.2.2.2.2.2.2.2)) (z42 _).symm (blc (e := z0w) (x := v3.2) (z42 _).symm (bl0 z0w))) pT))) (by kernel_rfl)
  ·obtain rfl := retE h
   exact fin (ok X) 5 [.b false] (pA k2 pT) (by kernel_rfl)
 ·cases h
 ·obtain rfl := retE h
  exact fin (ok X) 3 [] pT (by kernel_rfl)

theorem zfy {n : Nat} (ih_parse_reader_expr : ∀ (a0 : z00) (r : (z00 × z04)), z1a n a0 = some r → Cs Tryz.prog (GX X) 141 [xP 0 0] [oB 71 (bs (z02 a0))] (z2e r) (z2f r)) (ih_parse_reader_chain_parse_reader_term : ∀ (a0 : z00) (a2 : (List ByteArray)) (a3 : Int) (r : (z00 × z04)), z09 n a0 a2 a3 = some r → Cs Tryz.prog (GX X) 160 [xP 0 0, .fn (.func 161) [.box 0 0] [], xL (List.map z0v a2), xI a3] [oB 71 (bs (z02 a0))] (z11 r) (z12 r)) (ih_parse_reader_term : ∀ (a0 : z00) (r : (z00 × z04)), z15 n a0 = some r → Cs Tryz.prog (GX X) 161 [xP 0 0] [oB 71 (bs (z02 a0))] (z3h r) (z3i r)) (ih_parse_reader_chain_parse_reader_factor : ∀ (a0 : z00) (a2 : (List ByteArray)) (a3 : Int) (r : (z00 × z04)), z08 n a0 a2 a3 = some r → Cs Tryz.prog (GX X) 160 [xP 0 0, .fn (.func 174) [.box 0 0] [], xL (List.map z0v a2), xI a3] [oB 71 (bs (z02 a0))] (z0x r) (z0y r)) (ih_parse_reader_factor : ∀ (a0 : z00) (r : (z00 × z04)), z0h n a0 = some r → Cs Tryz.prog (GX X) 174 [xP 0 0] [oB 71 (bs (z02 a0))] (z2v r) (z2w r)) (ih_parse_reader_negated : ∀ (a0 : z00) (r : (z00 × z04)), z17 n a0 = some r → Cs Tryz.prog (GX X) 183 [xP 0 0] [oB 71 (bs (z02 a0))] (z36 r) (z38 r)) (ih_parse_reader_parens : ∀ (a0 : z00) (r : (z00 × z04)), z1b n a0 = some r → Cs Tryz.prog (GX X) 184 [xP 0 0] [oB 71 (bs (z02 a0))] (z3b r) (z3c r)) (a0 : z00) (r : (z00 × z04)) (h : z15 (n + 1) a0 = some r) : Cs Tryz.prog (GX X) 161 [xP 0 0] [oB 71 (bs (z02 a0))] (z3h r) (z3i r) := by
 refine fnT (cx := cx X) Tryz.f161 Tryz.call161 Tryz.func161 (by kernel_rfl) ?_
 rw [z15] at h
 obtain ⟨v1, k1, h⟩ := z06 h
 obtain rfl := retE h
 exact fin (ok X) 5 [.s (z0x v1) (z0y v1)] (pA (ih_parse_reader_chain_parse_reader_factor _ _ _ _ k1) pT) (by kernel_rfl)

theorem z7x {n : Nat} (ih_parse_reader_expr : ∀ (a0 : z00) (r : (z00 × z04)), z1a n a0 = some r → Cs Tryz.prog (GX X) 141 [xP 0 0] [oB 71 (bs (z02 a0))] (z2e r) (z2f r)) (ih_parse_reader_chain_parse_reader_term : ∀ (a0 : z00) (a2 : (List ByteArray)) (a3 : Int) (r : (z00 × z04)), z09 n a0 a2 a3 = some r → Cs Tryz.prog (GX X) 160 [xP 0 0, .fn (.func 161) [.box 0 0] [], xL (List.map z0v a2), xI a3] [oB 71 (bs (z02 a0))] (z11 r) (z12 r)) (ih_parse_reader_term : ∀ (a0 : z00) (r : (z00 × z04)), z15 n a0 = some r → Cs Tryz.prog (GX X) 161 [xP 0 0] [oB 71 (bs (z02 a0))] (z3h r) (z3i r)) (ih_parse_reader_chain_parse_reader_factor : ∀ (a0 : z00) (a2 : (List ByteArray)) (a3 : Int) (r : (z00 × z04)), z08 n a0 a2 a3 = some r → Cs Tryz.prog (GX X) 160 [xP 0 0, .fn (.func 174) [.box 0 0] [], xL (List.map z0v a2), xI a3] [oB 71 (bs (z02 a0))] (z0x r) (z0y r)) (ih_parse_reader_factor : ∀ (a0 : z00) (r : (z00 × z04)), z0h n a0 = some r → Cs Tryz.prog (GX X) 174 [xP 0 0] [oB 71 (bs (z02 a0))] (z2v r) (z2w r)) (ih_parse_reader_negated : ∀ (a0 : z00) (r : (z00 × z04)), z17 n a0 = some r → Cs Tryz.prog (GX X) 183 [xP 0 0] [oB 71 (bs (z02 a0))] (z36 r) (z38 r)) (ih_parse_reader_parens : ∀ (a0 : z00) (r : (z00 × z04)), z1b n a0 = some r → Cs Tryz.prog (GX X) 184 [xP 0 0] [oB 71 (bs (z02 a0))] (z3b r) (z3c r)) (a0 : z00) (a2 : (List ByteArray)) (a3 : Int) (r : (z00 × z04)) (h : z08 (n + 1) a0 a2 a3 = some r) : Cs Tryz.prog (GX X) 160 [xP 0 0, .fn (.func 174) [.box 0 0] [], xL (List.map z0v a2), xI a3] [oB 71 (bs (z02 a0))] (z0x r) (z0y r) := by
 refine fnT (cx := cx X) Tryz.f160 Tryz.call160 Tryz.func160 (by kernel_rfl) ?_
 rw [z08] at h
 obtain ⟨v1, k1, h⟩ := z06 h
 refine adv (ok X) 5 [.s (z2v v1) (z2w v1)] (pA (ih_parse_reader_factor _ _ k1) pT) (by kernel_rfl) ?_
 refine lp (ok X) (z2a (z1a n) (z09 n) (z15 n) (z08 n) (z0h n) (z17 n) (z1b n) a2 a3) (fun (x1 : ((List z0e) × Int × Int × Int × Int × Int × Int × Int × ByteArray × (List z04))) => ⟨32, 1, [(0, [xP 0 0]), (1, [.fn (.func 174) [.box 0 0] []]), (2, [xL (List.map z0v a2)]), (3, [xI a3]), (8, [xP 1 0]), (9, [xP 2 0])], [oB 71 (bs (z02 (z00.mk x1.1 x1.2.1 x1.2.2.1 x1.2.2.2.1 x1.2.2.2.2.1 x1.2.2.2.2.2.1))), oB 103 [.pv (.int .i64 0), .pv (.int .i64 0), .pv (.str (ByteArray.mk #[])), .emp], oB 103 (bs (z0d (z04.mk x1.2.2.2.2.2.2.1 x1.2.2.2.2.2.2.2.1 x1.2.2.2.2.2.2.2.2.1 x1.2.2.2.2.2.2.2.2.2)))]⟩) (fun (j1 : ((List z0e) × Int × Int × Int × Int × Int × Int × Int × ByteArray × (List z04))) => ⟨32, 1, [(8, [xP 1 0]), (9, [xP 2 0])], [oB 71 (bs (z02 (z00.mk j1.1 j1.2.1 j1.2.2.1 j1.2.2.2.1 j1.2.2.2.2.1 j1.2.2.2.2.2.1))), oB 103 [.pv (.int .i64 0), .pv (.int .i64 0), .pv (.str (ByteArray.mk #[])), .emp], oB 103 (bs (z0d (z04.mk j1.2.2.2.2.2.2.1 j1.2.2.2.2.2.2.2.1 j1.2.2.2.2.2.2.2.2.1 j1.2.2.2.2.2.2.2.2.2)))]⟩) z7w (v1.1.f_l, v1.1.f_end, v1.1.f_e, v1.1.f_at, v1.1.f_deep, v1.1.f_in, v1.2.Kind, v1.2.Num, v1.2.Name, v1.2.Kids) (fun _ => ⟨_, _, _, _, rfl⟩) h (by kernel_rfl) (fun x1 o h => ?_) (fun r' h => ?_) (fun j1 h => ?_)
 ·unfold z2a at h
  rcases iteE h with ⟨k2, h⟩ | ⟨k2, h⟩
  ·obtain ⟨v2, k3, h⟩ := z06 h
   refine adv (ok X) 11 [.b true, .s (z69 v2) (z6a v2)] (pA k2 (pA (z77 (X := X) k3) pT)) (by kernel_rfl) ?_
   rcases iteE h with ⟨k4, h⟩ | ⟨k4, h⟩
   ·obtain rfl := retE h
    exact fin (ok X) 2 [.b true] (pA k4 pT) (by kernel_rfl)
   ·obtain ⟨v3, k5, h⟩ := z06 h
    obtain rfl := retE h
    exact fin (ok X) 4 [.b false, .o [0, 1, 2, 3, 4, 5, 6, 7, 8], .s (z2v v3) (z2w v3), .bl (List.map z0w [(z04.mk x1.2.2.2.2.2.2.1 x1.2.2.2.2.2.2.2.1 x1.2.2.2.2.2.2.2.2.1 x1.2.2.2.2.2.2.2.2.2), v3.2])] (pA k4 (pA (ih_parse_reader_factor _ _ k5) (pA (blc (e := z0w) (x := (z04.mk x1.2.2.2.2.2.2.1 x1.2.2.2.2.2.2.2.1 x1.2.2.2.2.2.2.2.2.1 x1.2.2.2.2.2.2.2.2.2)) (z42 _).symm (blc (e := z0w) (x := v3.2) (z42 _).symm (bl0 z0w))) pT))) (by kernel_rfl)
  ·obtain rfl := retE h
   exact fin (ok X) 5 [.b false] (pA k2 pT) (by kernel_rfl)
 ·cases h
 ·obtain rfl := retE h
  exact fin (ok X) 3 [] pT (by kernel_rfl)

theorem ze7 {n : Nat} (ih_parse_reader_expr : ∀ (a0 : z00) (r : (z00 × z04)), z1a n a0 = some r → Cs Tryz.prog (GX X) 141 [xP 0 0] [oB 71 (bs (z02 a0))] (z2e r) (z2f r)) (ih_parse_reader_chain_parse_reader_term : ∀ (a0 : z00) (a2 : (List ByteArray)) (a3 : Int) (r : (z00 × z04)), z09 n a0 a2 a3 = some r → Cs Tryz.prog (GX X) 160 [xP 0 0, .fn (.func 161) [.box 0 0] [], xL (List.map z0v a2), xI a3] [oB 71 (bs (z02 a0))] (z11 r) (z12 r)) (ih_parse_reader_term : ∀ (a0 : z00) (r : (z00 × z04)), z15 n a0 = some r → Cs Tryz.prog (GX X) 161 [xP 0 0] [oB 71 (bs (z02 a0))] (z3h r) (z3i r)) (ih_parse_reader_chain_parse_reader_factor : ∀ (a0 : z00) (a2 : (List ByteArray)) (a3 : Int) (r : (z00 × z04)), z08 n a0 a2 a3 = some r → Cs Tryz.prog (GX X) 160 [xP 0 0, .fn (.func 174) [.box 0 0] [], xL (List.map z0v a2), xI a3] [oB 71 (bs (z02 a0))] (z0x r) (z0y r)) (ih_parse_reader_factor : ∀ (a0 : z00) (r : (z00 × z04)), z0h n a0 = some r → Cs Tryz.prog (GX X) 174 [xP 0 0] [oB 71 (bs (z02 a0))] (z2v r) (z2w r)) (ih_parse_reader_negated : ∀ (a0 : z00) (r : (z00 × z04)), z17 n a0 = some r → Cs Tryz.prog (GX X) 183 [xP 0 0] [oB 71 (bs (z02 a0))] (z36 r) (z38 r)) (ih_parse_reader_parens : ∀ (a0 : z00) (r : (z00 × z04)), z1b n a0 = some r → Cs Tryz.prog (GX X) 184 [xP 0 0] [oB 71 (bs (z02 a0))] (z3b r) (z3c r)) (a0 : z00) (r : (z00 × z04)) (h : z0h (n + 1) a0 = some r) : Cs Tryz.prog (GX X) 174 [xP 0 0] [oB 71 (bs (z02 a0))] (z2v r) (z2w r) := by
 refine fnT (cx := cx X) Tryz.f174 Tryz.call174 Tryz.func174 (by kernel_rfl) ?_
 rw [z0h] at h
 obtain ⟨v1, k1, h⟩ := z06 h
 refine adv (ok X) 6 [.s (z4s v1) (z4t a0 v1)] (pA (z59 (X := X) k1) pT) (by kernel_rfl) ?_
 rcases iteE h with ⟨k2, h⟩ | ⟨k2, h⟩
 ·obtain ⟨v2, k3, h⟩ := z06 h
  obtain rfl := retE h
  exact fin (ok X) 4 [.b true, .s (z36 v2) (z38 v2)] (pA k2 (pA (ih_parse_reader_negated _ _ k3) pT)) (by kernel_rfl)
 ·obtain ⟨v3, k4, h⟩ := z06 h
  refine adv (ok X) 3 [.b false, .s (z4s v3) (z4t a0 v3)] (pA k2 (pA (z59 (X := X) k4) pT)) (by kernel_rfl) ?_
  rcases iteE h with ⟨k5, h⟩ | ⟨k5, h⟩
  ·obtain ⟨v4, k6, h⟩ := z06 h
   obtain rfl := retE h
   exact fin (ok X) 4 [.b true, .s (z3b v4) (z3c v4)] (pA k5 (pA (ih_parse_reader_parens _ _ k6) pT)) (by kernel_rfl)
  ·obtain ⟨v5, k7, h⟩ := z06 h
   refine adv (ok X) 3 [.b false, .s (z8j v5) (z8k a0 v5)] (pA k5 (pA (zah (X := X) k7) pT)) (by kernel_rfl) ?_
   rcases iteE h with ⟨k8, h⟩ | ⟨k8, h⟩
   ·obtain ⟨v6, k9, h⟩ := z06 h
    obtain rfl := retE h
    exact fin (ok X) 4 [.b true, .s (z60 v6) (z61 v6)] (pA k8 (pA (z6y (X := X) k9) pT)) (by kernel_rfl)
   ·obtain ⟨v7, k10, h⟩ := z06 h
    obtain rfl := retE h
    exact fin (ok X) 6 [.b false, .s (z1s v7) (z1t v7)] (pA k8 (pA (z22 (X := X) k10) pT)) (by kernel_rfl)

theorem zdn {n : Nat} (ih_parse_reader_expr : ∀ (a0 : z00) (r : (z00 × z04)), z1a n a0 = some r → Cs Tryz.prog (GX X) 141 [xP 0 0] [oB 71 (bs (z02 a0))] (z2e r) (z2f r)) (ih_parse_reader_chain_parse_reader_term : ∀ (a0 : z00) (a2 : (List ByteArray)) (a3 : Int) (r : (z00 × z04)), z09 n a0 a2 a3 = some r → Cs Tryz.prog (GX X) 160 [xP 0 0, .fn (.func 161) [.box 0 0] [], xL (List.map z0v a2), xI a3] [oB 71 (bs (z02 a0))] (z11 r) (z12 r)) (ih_parse_reader_term : ∀ (a0 : z00) (r : (z00 × z04)), z15 n a0 = some r → Cs Tryz.prog (GX X) 161 [xP 0 0] [oB 71 (bs (z02 a0))] (z3h r) (z3i r)) (ih_parse_reader_chain_parse_reader_factor : ∀ (a0 : z00) (a2 : (List ByteArray)) (a3 : Int) (r : (z00 × z04)), z08 n a0 a2 a3 = some r → Cs Tryz.prog (GX X) 160 [xP 0 0, .fn (.func 174) [.box 0 0] [], xL (List.map z0v a2), xI a3] [oB 71 (bs (z02 a0))] (z0x r) (z0y r)) (ih_parse_reader_factor : ∀ (a0 : z00) (r : (z00 × z04)), z0h n a0 = some r → Cs Tryz.prog (GX X) 174 [xP 0 0] [oB 71 (bs (z02 a0))] (z2v r) (z2w r)) (ih_parse_reader_negated : ∀ (a0 : z00) (r : (z00 × z04)), z17 n a0 = some r → Cs Tryz.prog (GX X) 183 [xP 0 0] [oB 71 (bs (z02 a0))] (z36 r) (z38 r)) (ih_parse_reader_parens : ∀ (a0 : z00) (r : (z00 × z04)), z1b n a0 = some r → Cs Tryz.prog (GX X) 184 [xP 0 0] [oB 71 (bs (z02 a0))] (z3b r) (z3c r)) (a0 : z00) (r : (z00 × z04)) (h : z17 (n + 1) a0 = some r) : Cs Tryz.prog (GX X) 183 [xP 0 0] [oB 71 (bs (z02 a0))] (z36 r) (z38 r) := by
 refine fnT (cx := cx X) Tryz.f183 Tryz.call183 Tryz.func183 (by kernel_rfl) ?_
 rw [z17] at h
 obtain ⟨v1, k1, h⟩ := z06 h
 refine adv (ok X) 5 [.s (z8r v1) (z8s v1)] (pA (zb6 (X := X) k1) pT) (by kernel_rfl) ?_
 rcases iteE h with ⟨k2, h⟩ | ⟨k2, h⟩
 ·obtain rfl := retE h
  exact fin (ok X) 4 [.b true] (pA k2 pT) (by kernel_rfl)
 ·obtain ⟨v2, k3, h⟩ := z06 h
  obtain ⟨v3, k4, h⟩ := z06 h
  obtain rfl := retE h
  exact fin (ok X) 11 [.b false, .s (z0n v2) (z0o v2), .s (z2v v3) (z2w v3), .bl (List.map z0w [v3.2])] (pA k2 (pA (z0q (X := X) k3) (pA (ih_parse_reader_factor _ _ k4) (pA (blc (e := z0w) (x := v3.2) (z42 _).symm (bl0 z0w)) pT)))) (by kernel_rfl)

theorem ze8 {n : Nat} (ih_parse_reader_expr : ∀ (a0 : z00) (r : (z00 × z04)), z1a n a0 = some r → Cs Tryz.prog (GX X) 141 [xP 0 0] [oB 71 (bs (z02 a0))] (z2e r) (z2f r)) (ih_parse_reader_chain_parse_reader_term : ∀ (a0 : z00) (a2 : (List ByteArray)) (a3 : Int) (r : (z00 × z04)), z09 n a0 a2 a3 = some r → Cs Tryz.prog (GX X) 160 [xP 0 0, .fn (.func 161) [.box 0 0] [], xL (List.map z0v a2), xI a3] [oB 71 (bs (z02 a0))] (z11 r) (z12 r)) (ih_parse_reader_term : ∀ (a0 : z00) (r : (z00 × z04)), z15 n a0 = some r → Cs Tryz.prog (GX X) 161 [xP 0 0] [oB 71 (bs (z02 a0))] (z3h r) (z3i r)) (ih_parse_reader_chain_parse_reader_factor : ∀ (a0 : z00) (a2 : (List ByteArray)) (a3 : Int) (r : (z00 × z04)), z08 n a0 a2 a3 = some r → Cs Tryz.prog (GX X) 160 [xP 0 0, .fn (.func 174) [.box 0 0] [], xL (List.map z0v a2), xI a3] [oB 71 (bs (z02 a0))] (z0x r) (z0y r)) (ih_parse_reader_factor : ∀ (a0 : z00) (r : (z00 × z04)), z0h n a0 = some r → Cs Tryz.prog (GX X) 174 [xP 0 0] [oB 71 (bs (z02 a0))] (z2v r) (z2w r)) (ih_parse_reader_negated : ∀ (a0 : z00) (r : (z00 × z04)), z17 n a0 = some r → Cs Tryz.prog (GX X) 183 [xP 0 0] [oB 71 (bs (z02 a0))] (z36 r) (z38 r)) (ih_parse_reader_parens : ∀ (a0 : z00) (r : (z00 × z04)), z1b n a0 = some r → Cs Tryz.prog (GX X) 184 [xP 0 0] [oB 71 (bs (z02 a0))] (z3b r) (z3c r)) (a0 : z00) (r : (z00 × z04)) (h : z1b (n + 1) a0 = some r) : Cs Tryz.prog (GX X) 184 [xP 0 0] [oB 71 (bs (z02 a0))] (z3b r) (z3c r) := by
 refine fnT (cx := cx X) Tryz.f184 Tryz.call184 Tryz.func184 (by kernel_rfl) ?_
 rw [z1b] at h
 obtain ⟨v1, k1, h⟩ := z06 h
 refine adv (ok X) 5 [.s (z8r v1) (z8s v1)] (pA (zb6 (X := X) k1) pT) (by kernel_rfl) ?_
 rcases iteE h with ⟨k2, h⟩ | ⟨k2, h⟩
 ·obtain rfl := retE h
  exact fin (ok X) 4 [.b true] (pA k2 pT) (by kernel_rfl)
 ·obtain ⟨v2, k3, h⟩ := z06 h
  obtain ⟨v3, k4, h⟩ := z06 h
  obtain ⟨v4, k5, h⟩ := z06 h
  obtain rfl := retE h
  exact fin (ok X) 13 [.b false, .s (z0n v2) (z0o v2), .s (z2e v3) (z2f v3), .s (z0n v4) (z0o v4)] (pA k2 (pA (z0q (X := X) k3) (pA (ih_parse_reader_expr _ _ k4) (pA (z0q (X := X) k5) pT)))) (by kernel_rfl)

theorem zax : ∀ n : Nat, (∀ (a0 : z00) (r : (z00 × z04)), z1a n a0 = some r → Cs Tryz.prog (GX X) 141 [xP 0 0] [oB 71 (bs (z02 a0))] (z2e r) (z2f r)) ∧ (∀ (a0 : z00) (a2 : (List ByteArray)) (a3 : Int) (r : (z00 × z04)), z09 n a0 a2 a3 = some r → Cs Tryz.prog (GX X) 160 [xP 0 0, .fn (.func 161) [.box 0 0] [], xL (List.map z0v a2), xI a3] [oB 71 (bs (z02 a0))] (z11 r) (z12 r)) ∧ (∀ (a0 : z00) (r : (z00 × z04)), z15 n a0 = some r → Cs Tryz.prog (GX X) 161 [xP 0 0] [oB 71 (bs (z02 a0))] (z3h r) (z3i r)) ∧ (∀ (a0 : z00) (a2 : (List ByteArray)) (a3 : Int) (r : (z00 × z04)), z08 n a0 a2 a3 = some r → Cs Tryz.prog (GX X) 160 [xP 0 0, .fn (.func 174) [.box 0 0] [], xL (List.map z0v a2), xI a3] [oB 71 (bs (z02 a0))] (z0x r) (z0y r)) ∧ (∀ (a0 : z00) (r : (z00 × z04)), z0h n a0 = some r → Cs Tryz.prog (GX X) 174 [xP 0 0] [oB 71 (bs (z02 a0))] (z2v r) (z2w r)) ∧ (∀ (a0 : z00) (r : (z00 × z04)), z17 n a0 = some r → Cs Tryz.prog (GX X) 183 [xP 0 0] [oB 71 (bs (z02 a0))] (z36 r) (z38 r)) ∧ (∀ (a0 : z00) (r : (z00 × z04)), z1b n a0 = some r → Cs Tryz.prog (GX X) 184 [xP 0 0] [oB 71 (bs (z02 a0))] (z3b r) (z3c r))
 | 0 => ⟨(fun _ _ h => by rw [z1a] at h; cases h), (fun _ _ _ _ h => by rw [z09] at h; cases h), (fun _ _ h => by rw [z15] at h; cases h), (fun _ _ _ _ h => by rw [z08] at h; cases h), (fun _ _ h => by rw [z0h] at h; cases h), (fun _ _ h => by rw [z17] at h; cases h), (fun _ _ h => by rw [z1b] at h; cases h)⟩
 | n + 1 => by
  have ih := zax n
  exact ⟨zfx ih.1 ih.2.1 ih.2.2.1 ih.2.2.2.1 ih.2.2.2.2.1 ih.2.2.2.2.2.1 ih.2.2.2.2.2.2, z8m ih.1 ih.2.1 ih.2.2.1 ih.2.2.2.1 ih.2.2.2.2.1 ih.2.2.2.2.2.1 ih.2.2.2.2.2.2, zfy ih.1 ih.2.1 ih.2.2.1 ih.2.2.2.1 ih.2.2.2.2.1 ih.2.2.2.2.2.1 ih.2.2.2.2.2.2, z7x ih.1 ih.2.1 ih.2.2.1 ih.2.2.2.1 ih.2.2.2.2.1 ih.2.2.2.2.2.1 ih.2.2.2.2.2.2, ze7 ih.1 ih.2.1 ih.2.2.1 ih.2.2.2.1 ih.2.2.2.2.1 ih.2.2.2.2.2.1 ih.2.2.2.2.2.2, zdn ih.1 ih.2.1 ih.2.2.1 ih.2.2.2.1 ih.2.2.2.2.1 ih.2.2.2.2.2.1 ih.2.2.2.2.2.2, ze8 ih.1 ih.2.1 ih.2.2.1 ih.2.2.2.1 ih.2.2.2.2.1 ih.2.2.2.2.2.1 ih.2.2.2.2.2.2⟩

theorem z7h {a0 : z00} {r : (z00 × z04)} (h : z4y a0 = some r) : Cs Tryz.prog (GX X) 141 [xP 0 0] [oB 71 (bs (z02 a0))] (z2e r) (z2f r) := by
 obtain ⟨n, hn⟩ := unfE h
 exact (zax n).1 _ _ hn

theorem zfz {a0 : z00} {r : (z00 × z03)} (h : z6g a0 = some r) : Cs Tryz.prog (GX X) 118 [xP 0 0] [oB 71 (bs (z02 a0))] (zbq r) (zbr r) := by
 refine fnT (cx := cx X) Tryz.f118 Tryz.call118 Tryz.func118 (by kernel_rfl) ?_
 unfold z6g at h
 obtain ⟨v1, k1, h⟩ := z06 h
 obtain ⟨v2, k2, h⟩ := z06 h
 obtain ⟨v3, k3, h⟩ := z06 h
 obtain ⟨v4, k4, h⟩ := z06 h
 obtain ⟨v5, k5, h⟩ := z06 h
 obtain ⟨v6, k6, h⟩ := z06 h
 obtain ⟨v7, k7, h⟩ := z06 h
 obtain rfl := retE h
 exact fin (ok X) 19 [.s (z1s v1) (z1t v1), .s (z0n v2) (z0o v2), .s (z1s v3) (z1t v3), .s (z0n v4) (z0o v4), .s (z2e v5) (z2f v5), .s (z0n v6) (z0o v6), .s (z0n v7) (z0o v7)] (pA (z22 (X := X) k1) (pA (z0q (X := X) k2) (pA (z22 (X := X) k3) (pA (z0q (X := X) k4) (pA (z7h (X := X) k5) (pA (z0q (X := X) k6) (pA (z0q (X := X) k7) pT))))))) (by kernel_rfl)

theorem z9g {a0 : z00} {r : (z00 × z31)} (h : z4z a0 = some r) : Cs Tryz.prog (GX X) 139 [xP 0 0] [oB 71 (bs (z02 a0))] (z7e r) (z7f r) := by
 refine fnT (cx := cx X) Tryz.f139 Tryz.call139 Tryz.func139 (by kernel_rfl) ?_
 unfold z4z at h
 obtain ⟨v1, k1, h⟩ := z06 h
 obtain ⟨v2, k2, h⟩ := z06 h
 obtain ⟨v3, k3, h⟩ := z06 h
 refine adv (ok X) 11 [.s (z0n v1) (z0o v1), .s (z2e v2) (z2f v2), .s (z69 v3) (z6a v3)] (pA (z0q (X := X) k1) (pA (z7h (X := X) k2) (pA (z77 (X := X) k3) pT))) (by kernel_rfl) ?_
 rcases iteE h with ⟨k4, h⟩ | ⟨k4, h⟩
 ·obtain ⟨v4, k5, h⟩ := z06 h
  obtain rfl := retE h
  exact fin (ok X) 6 [.b true, .s (z4u v4) (z4v v4)] (pA k4 (pA (z5a (X := X) k5) pT)) (by kernel_rfl)
 ·obtain ⟨v5, k6, h⟩ := z06 h
  obtain ⟨v6, k7, h⟩ := z06 h
  obtain rfl := retE h
  exact fin (ok X) 11 [.b false, .s (z2e v5) (z2f v5), .s (z0n v6) (z0o v6)] (pA k4 (pA (z7h (X := X) k6) (pA (z0q (X := X) k7) pT))) (by kernel_rfl)

theorem ze9 {a0 : z00} {r : (z00 × z03)} (h : z5w a0 = some r) : Cs Tryz.prog (GX X) 120 [xP 0 0] [oB 71 (bs (z02 a0))] (zar r) (zas r) := by
 refine fnT (cx := cx X) Tryz.f120 Tryz.call120 Tryz.func120 (by kernel_rfl) ?_
 unfold z5w at h
 obtain ⟨v1, k1, h⟩ := z06 h
 obtain ⟨v2, k2, h⟩ := z06 h
 obtain rfl := retE h
 exact fin (ok X) 9 [.s (z7e v1) (z7f v1), .s (z0n v2) (z0o v2)] (pA (z9g (X := X) k1) (pA (z0q (X := X) k2) pT)) (by kernel_rfl)

theorem zf4 {a0 : z00} {r : (z00 × z03)} (h : z65 a0 = some r) : Cs Tryz.prog (GX X) 121 [xP 0 0] [oB 71 (bs (z02 a0))] (zb3 r) (zb4 r) := by
 refine fnT (cx := cx X) Tryz.f121 Tryz.call121 Tryz.func121 (by kernel_rfl) ?_
 unfold z65 at h
 obtain ⟨v1, k1, h⟩ := z06 h
 obtain ⟨v2, k2, h⟩ := z06 h
 obtain rfl := retE h
 exact fin (ok X) 9 [.s (z1s v1) (z1t v1), .s (z0n v2) (z0o v2)] (pA (z22 (X := X) k1) (pA (z0q (X := X) k2) pT)) (by kernel_rfl)

theorem zea {a0 : z00} {r : (z00 × z03)} (h : z5x a0 = some r) : Cs Tryz.prog (GX X) 122 [xP 0 0] [oB 71 (bs (z02 a0))] (zat r) (zau r) := by
 refine fnT (cx := cx X) Tryz.f122 Tryz.call122 Tryz.func122 (by kernel_rfl) ?_
 unfold z5x at h
 obtain ⟨v1, k1, h⟩ := z06 h
 obtain ⟨v2, k2, h⟩ := z06 h
 obtain ⟨v3, k3, h⟩ := z06 h
 obtain ⟨v4, k4, h⟩ := z06 h
 obtain rfl := retE h
 exact fin (ok X) 13 [.s (z1s v1) (z1t v1), .s (z0n v2) (z0o v2), .s (z2e v3) (z2f v3), .s (z0n v4) (z0o v4)] (pA (z22 (X := X) k1) (pA (z0q (X := X) k2) (pA (z7h (X := X) k3) (pA (z0q (X := X) k4) pT)))) (by kernel_rfl)

theorem zf5 {n : Nat} (ih_parse_reader_stmts : ∀ (a0 : z00) (r : (z00 × (List z03))), z13 n a0 = some r → Cs Tryz.prog (GX X) 61 [xP 0 0] [oB 71 (bs (z02 a0))] (z2r r) (z2s r)) (ih_parse_reader_stmt : ∀ (a0 : z00) (r : (z00 × z03 × Bool)), z0p n a0 = some r → Cs Tryz.prog (GX X) 98 [xP 0 0] [oB 71 (bs (z02 a0))] (z3w r) (z3x r)) (ih_parse_reader_conditional : ∀ (a0 : z00) (r : (z00 × z03)), z0z n a0 = some r → Cs Tryz.prog (GX X) 116 [xP 0 0] [oB 71 (bs (z02 a0))] (z2i r) (z2j r)) (ih_parse_reader_loop : ∀ (a0 : z00) (r : (z00 × z03)), z1v n a0 = some r → Cs Tryz.prog (GX X) 117 [xP 0 0] [oB 71 (bs (z02 a0))] (z3y r) (z3z r)) (ih_parse_reader_recv : ∀ (a0 : z00) (r : (z00 × z03)), z1p n a0 = some r → Cs Tryz.prog (GX X) 119 [xP 0 0] [oB 71 (bs (z02 a0))] (z3j r) (z3k r)) (ih_parse_reader_block : ∀ (a0 : z00) (r : (z00 × (List z03))), z0i n a0 = some r → Cs Tryz.prog (GX X) 140 [xP 0 0] [oB 71 (bs (z02 a0))] (z2t r) (z2u r)) (ih_parse_reader_arm : ∀ (a0 : z00) (r : (z00 × z0m)), z19 n a0 = some r → Cs Tryz.prog (GX X) 142 [xP 0 0] [oB 71 (bs (z02 a0))] (z3u r) (z3v r)) (a0 : z00) (r : (z00 × (List z03))) (h : z13 (n + 1) a0 = some r) : Cs Tryz.prog (GX X) 61 [xP 0 0] [oB 71 (bs (z02 a0))] (z2r r) (z2s r) := by
 refine fnT (cx := cx X) Tryz.f61 Tryz.call61 Tryz.func61 (by kernel_rfl) ?_
 rw [z13] at h
 refine adv (ok X) 4 [] pT (by kernel_rfl) ?_
 refine lp (ok X) (z6w (z13 n) (z0p n) (z0z n) (z1v n) (z1p n) (z0i n) (z19 n)) (fun (x1 : ((List z0e) × Int × Int × Int × Int × Int × (List z03))) => ⟨18, 1, [(0, [xP 0 0]), (3, [xR 1])], [oB 71 (bs (z02 (z00.mk x1.1 x1.2.1 x1.2.2.1 x1.2.2.2.1 x1.2.2.2.2.1 x1.2.2.2.2.2.1))), oR true 108 19 (List.map z0j x1.2.2.2.2.2.2)]⟩) (fun (j1 : Unit) => ⟨18, 1, [], [none]⟩) zf2 (a0.f_l, a0.f_end, a0.f_e, a0.f_at, a0.f_deep, a0.f_in, []) (fun _ => ⟨_, _, _, _, rfl⟩) h (by kernel_rfl) (fun x1 o h => ?_) (fun r' h => ?_) (fun j1 h => ?_)
 ·unfold z6w at h
  obtain ⟨v1, k1, h⟩ := z06 h
  refine adv (ok X) 6 [.s (z3w v1) (z3x v1)] (pA (ih_parse_reader_stmt _ _ k1) pT) (by kernel_rfl) ?_
  rcases iteE h with ⟨k2, h⟩ | ⟨k2, h⟩
  ·obtain rfl := retE h
   exact fin (ok X) 4 [.b true] (pA k2 pT) (by kernel_rfl)
  ·obtain ⟨v2, k3, h⟩ := z06 h
   obtain rfl := retE h
   exact fin (ok X) 4 [.b false, .bl (List.map z0j [v1.2.1]), .l (List.map z0j v2)] (pA k2 (pA (blc (e := z0j) (x := v1.2.1) (z3l _).symm (bl0 z0j)) (pA (apm (L := x1.2.2.2.2.2.2) (M := [v1.2.1]) zfb k3) pT))) (by kernel_rfl)
 ·obtain rfl := retE h
  kernel_rfl
 ·cases h

theorem zg0 {n : Nat} (ih_parse_reader_stmts : ∀ (a0 : z00) (r : (z00 × (List z03))), z13 n a0 = some r → Cs Tryz.prog (GX X) 61 [xP 0 0] [oB 71 (bs (z02 a0))] (z2r r) (z2s r)) (ih_parse_reader_stmt : ∀ (a0 : z00) (r : (z00 × z03 × Bool)), z0p n a0 = some r → Cs Tryz.prog (GX X) 98 [xP 0 0] [oB 71 (bs (z02 a0))] (z3w r) (z3x r)) (ih_parse_reader_conditional : ∀ (a0 : z00) (r : (z00 × z03)), z0z n a0 = some r → Cs Tryz.prog (GX X) 116 [xP 0 0] [oB 71 (bs (z02 a0))] (z2i r) (z2j r)) (ih_parse_reader_loop : ∀ (a0 : z00) (r : (z00 × z03)), z1v n a0 = some r → Cs Tryz.prog (GX X) 117 [xP 0 0] [oB 71 (bs (z02 a0))] (z3y r) (z3z r)) (ih_parse_reader_recv : ∀ (a0 : z00) (r : (z00 × z03)), z1p n a0 = some r → Cs Tryz.prog (GX X) 119 [xP 0 0] [oB 71 (bs (z02 a0))] (z3j r) (z3k r)) (ih_parse_reader_block : ∀ (a0 : z00) (r : (z00 × (List z03))), z0i n a0 = some r → Cs Tryz.prog (GX X) 140 [xP 0 0] [oB 71 (bs (z02 a0))] (z2t r) (z2u r)) (ih_parse_reader_arm : ∀ (a0 : z00) (r : (z00 × z0m)), z19 n a0 = some r → Cs Tryz.prog (GX X) 142 [xP 0 0] [oB 71 (bs (z02 a0))] (z3u r) (z3v r)) (a0 : z00) (r : (z00 × z03 × Bool)) (h : z0p (n + 1) a0 = some r) : Cs Tryz.prog (GX X) 98 [xP 0 0] [oB 71 (bs (z02 a0))] (z3w r) (z3x r) := by
 refine fnT (cx := cx X) Tryz.f98 Tryz.call98 Tryz.func98 (by kernel_rfl) ?_
 rw [z0p] at h
 obtain ⟨v1, k1, h⟩ := z06 h
 refine adv (ok X) 6 [.s (z2c v1) (z2d v1)] (pA (z2n (X := X) k1) pT) (by kernel_rfl) ?_
 rcases iteE h with ⟨k2, h⟩ | ⟨k2, h⟩
 ·obtain ⟨v2, k3, h⟩ := z06 h
  obtain rfl := retE h
  exact fin (ok X) 4 [.b true, .s (z2i v2) (z2j v2)] (pA k2 (pA (ih_parse_reader_conditional _ _ k3) pT)) (by kernel_rfl)
 ·obtain ⟨v3, k4, h⟩ := z06 h
  refine adv (ok X) 3 [.b false, .s (z2c v3) (z2d v3)] (pA k2 (pA (z2n (X := X) k4) pT)) (by kernel_rfl) ?_
  rcases iteE h with ⟨k5, h⟩ | ⟨k5, h⟩
  ·obtain ⟨v4, k6, h⟩ := z06 h
   obtain rfl := retE h
   exact fin (ok X) 4 [.b true, .s (z3y v4) (z3z v4)] (pA k5 (pA (ih_parse_reader_loop _ _ k6) pT)) (by kernel_rfl)
  ·obtain ⟨v5, k7, h⟩ := z06 h
   refine adv (ok X) 3 [.b false, .s (z2c v5) (z2d v5)] (pA k5 (pA (z2n (X := X) k7) pT)) (by kernel_rfl) ?_
   rcases iteE h with ⟨k8, h⟩ | ⟨k8, h⟩
   ·obtain ⟨v6, k9, h⟩ := z06 h
    obtain rfl := retE h
    exact fin (ok X) 4 [.b true, .s (zbq v6) (zbr v6)] (pA k8 (pA (zfz (X := X) k9) pT)) (by kernel_rfl)
   ·obtain ⟨v7, k10, h⟩ := z06 h
    refine adv (ok X) 3 [.b false, .s (z2c v7) (z2d v7)] (pA k8 (pA (z2n (X := X) k10) pT)) (by kernel_rfl) ?_
    rcases iteE h with ⟨k11, h⟩ | ⟨k11, h⟩
    ·obtain ⟨v8, k12, h⟩ := z06 h
     obtain rfl := retE h
     exact fin (ok X) 4 [.b true, .s (z3j v8) (z3k v8)] (pA k11 (pA (ih_parse_reader_recv _ _ k12) pT)) (by kernel_rfl)
    ·obtain ⟨v9, k13, h⟩ := z06 h
     refine adv (ok X) 3 [.b false, .s (z2c v9) (z2d v9)] (pA k11 (pA (z2n (X := X) k13) pT)) (by kernel_rfl) ?_
     rcases iteE h with ⟨k14, h⟩ | ⟨k14, h⟩
     ·obtain ⟨v10, k15, h⟩ := z06 h
      obtain rfl := retE h
      exact fin (ok X) 4 [.b true, .s (zar v10) (zas v10)] (pA k14 (pA (ze9 (X := X) k15) pT)) (by kernel_rfl)
     ·obtain ⟨v11, k16, h⟩ := z06 h
      refine adv (ok X) 3 [.b false, .s (z2c v11) (z2d v11)] (pA k14 (pA (z2n (X := X) k16) pT)) (by kernel_rfl) ?_
      rcases iteE h with ⟨k17, h⟩ | ⟨k17, h⟩
      ·obtain ⟨v12, k18, h⟩ := z06 h
       obtain rfl := retE h
       exact fin (ok X) 4 [.b true, .s (zb3 v12) (zb4 v12)] (pA k17 (pA (zf4 (X := X) k18) pT)) (by kernel_rfl)
      ·obtain ⟨v13, k19, h⟩ := z06 h
       refine adv (ok X) 3 [.b false, .s (z8j v13) (z8k v11.1 v13)] (pA k17 (pA (zah (X := X) k19) pT)) (by kernel_rfl) ?_
       rcases iteE h with ⟨k20, h⟩ | ⟨k20, h⟩
       ·obtain ⟨v14, k21, h⟩ := z06 h
        obtain rfl := retE h
        exact fin (ok X) 4 [.b true, .s (zat v14) (zau v14)] (pA k20 (pA (zea (X := X) k21) pT)) (by kernel_rfl)
       ·obtain rfl := retE h
        exact fin (ok X) 6 [.b false] (pA k20 pT) (by kernel_rfl)

theorem zby {n : Nat} (ih_parse_reader_stmts : ∀ (a0 : z00) (r : (z00 × (List z03))), z13 n a0 = some r → Cs Tryz.prog (GX X) 61 [xP 0 0] [oB 71 (bs (z02 a0))] (z2r r) (z2s r)) (ih_parse_reader_stmt : ∀ (a0 : z00) (r : (z00 × z03 × Bool)), z0p n a0 = some r → Cs Tryz.prog (GX X) 98 [xP 0 0] [oB 71 (bs (z02 a0))] (z3w r) (z3x r)) (ih_parse_reader_conditional : ∀ (a0 : z00) (r : (z00 × z03)), z0z n a0 = some r → Cs Tryz.prog (GX X) 116 [xP 0 0] [oB 71 (bs (z02 a0))] (z2i r) (z2j r)) (ih_parse_reader_loop : ∀ (a0 : z00) (r : (z00 × z03)), z1v n a0 = some r → Cs Tryz.prog (GX X) 117 [xP 0 0] [oB 71 (bs (z02 a0))] (z3y r) (z3z r)) (ih_parse_reader_recv : ∀ (a0 : z00) (r : (z00 × z03)), z1p n a0 = some r → Cs Tryz.prog (GX X) 119 [xP 0 0] [oB 71 (bs (z02 a0))] (z3j r) (z3k r)) (ih_parse_reader_block : ∀ (a0 : z00) (r : (z00 × (List z03))), z0i n a0 = some r → Cs Tryz.prog (GX X) 140 [xP 0 0] [oB 71 (bs (z02 a0))] (z2t r) (z2u r)) (ih_parse_reader_arm : ∀ (a0 : z00) (r : (z00 × z0m)), z19 n a0 = some r → Cs Tryz.prog (GX X) 142 [xP 0 0] [oB 71 (bs (z02 a0))] (z3u r) (z3v r)) (a0 : z00) (r : (z00 × z03)) (h : z0z (n + 1) a0 = some r) : Cs Tryz.prog (GX X) 116 [xP 0 0] [oB 71 (bs (z02 a0))] (z2i r) (z2j r) := by
 refine fnT (cx := cx X) Tryz.f116 Tryz.call116 Tryz.func116 (by kernel_rfl) ?_
 rw [z0z] at h
 obtain ⟨v1, k1, h⟩ := z06 h
 obtain ⟨v2, k2, h⟩ := z06 h
 obtain ⟨v3, k3, h⟩ := z06 h
 refine adv (ok X) 9 [.s (z7e v1) (z7f v1), .s (z2t v2) (z2u v2), .s (z2c v3) (z2d v3)] (pA (z9g (X := X) k1) (pA (ih_parse_reader_block _ _ k2) (pA (z2n (X := X) k3) pT))) (by kernel_rfl) ?_
 rcases iteE h with ⟨k4, h⟩ | ⟨k4, h⟩
 ·obtain ⟨v4, k5, h⟩ := z06 h
  obtain rfl := retE h
  exact fin (ok X) 5 [.b true, .s (z2t v4) (z2u v4)] (pA k4 (pA (ih_parse_reader_block _ _ k5) pT)) (by kernel_rfl)
 ·obtain rfl := retE h
  exact fin (ok X) 5 [.b false] (pA k4 pT) (by kernel_rfl)

theorem zg1 {n : Nat} (ih_parse_reader_stmts : ∀ (a0 : z00) (r : (z00 × (List z03))), z13 n a0 = some r → Cs Tryz.prog (GX X) 61 [xP 0 0] [oB 71 (bs (z02 a0))] (z2r r) (z2s r)) (ih_parse_reader_stmt : ∀ (a0 : z00) (r : (z00 × z03 × Bool)), z0p n a0 = some r → Cs Tryz.prog (GX X) 98 [xP 0 0] [oB 71 (bs (z02 a0))] (z3w r) (z3x r)) (ih_parse_reader_conditional : ∀ (a0 : z00) (r : (z00 × z03)), z0z n a0 = some r → Cs Tryz.prog (GX X) 116 [xP 0 0] [oB 71 (bs (z02 a0))] (z2i r) (z2j r)) (ih_parse_reader_loop : ∀ (a0 : z00) (r : (z00 × z03)), z1v n a0 = some r → Cs Tryz.prog (GX X) 117 [xP 0 0] [oB 71 (bs (z02 a0))] (z3y r) (z3z r)) (ih_parse_reader_recv : ∀ (a0 : z00) (r : (z00 × z03)), z1p n a0 = some r → Cs Tryz.prog (GX X) 119 [xP 0 0] [oB 71 (bs (z02 a0))] (z3j r) (z3k r)) (ih_parse_reader_block : ∀ (a0 : z00) (r : (z00 × (List z03))), z0i n a0 = some r → Cs Tryz.prog (GX X) 140 [xP 0 0] [oB 71 (bs (z02 a0))] (z2t r) (z2u r)) (ih_parse_reader_arm : ∀ (a0 : z00) (r : (z00 × z0m)), z19 n a0 = some r → Cs Tryz.prog (GX X) 142 [xP 0 0] [oB 71 (bs (z02 a0))] (z3u r) (z3v r)) (a0 : z00) (r : (z00 × z03)) (h : z1v (n + 1) a0 = some r) : Cs Tryz.prog (GX X) 117 [xP 0 0] [oB 71 (bs (z02 a0))] (z3y r) (z3z r) := by
 refine fnT (cx := cx X) Tryz.f117 Tryz.call117 Tryz.func117 (by kernel_rfl) ?_
 rw [z1v] at h
 obtain ⟨v1, k1, h⟩ := z06 h
 obtain ⟨v2, k2, h⟩ := z06 h
 obtain rfl := retE h
 exact fin (ok X) 9 [.s (z7e v1) (z7f v1), .s (z2t v2) (z2u v2)] (pA (z9g (X := X) k1) (pA (ih_parse_reader_block _ _ k2) pT)) (by kernel_rfl)

theorem zg2 {n : Nat} (ih_parse_reader_stmts : ∀ (a0 : z00) (r : (z00 × (List z03))), z13 n a0 = some r → Cs Tryz.prog (GX X) 61 [xP 0 0] [oB 71 (bs (z02 a0))] (z2r r) (z2s r)) (ih_parse_reader_stmt : ∀ (a0 : z00) (r : (z00 × z03 × Bool)), z0p n a0 = some r → Cs Tryz.prog (GX X) 98 [xP 0 0] [oB 71 (bs (z02 a0))] (z3w r) (z3x r)) (ih_parse_reader_conditional : ∀ (a0 : z00) (r : (z00 × z03)), z0z n a0 = some r → Cs Tryz.prog (GX X) 116 [xP 0 0] [oB 71 (bs (z02 a0))] (z2i r) (z2j r)) (ih_parse_reader_loop : ∀ (a0 : z00) (r : (z00 × z03)), z1v n a0 = some r → Cs Tryz.prog (GX X) 117 [xP 0 0] [oB 71 (bs (z02 a0))] (z3y r) (z3z r)) (ih_parse_reader_recv : ∀ (a0 : z00) (r : (z00 × z03)), z1p n a0 = some r → Cs Tryz.prog (GX X) 119 [xP 0 0] [oB 71 (bs (z02 a0))] (z3j r) (z3k r)) (ih_parse_reader_block : ∀ (a0 : z00) (r : (z00 × (List z03))), z0i n a0 = some r → Cs Tryz.prog (GX X) 140 [xP 0 0] [oB 71 (bs (z02 a0))] (z2t r) (z2u r)) (ih_parse_reader_arm : ∀ (a0 : z00) (r : (z00 × z0m)), z19 n a0 = some r → Cs Tryz.prog (GX X) 142 [xP 0 0] [oB 71 (bs (z02 a0))] (z3u r) (z3v r)) (a0 : z00) (r : (z00 × z03)) (h : z1p (n + 1) a0 = some r) : Cs Tryz.prog (GX X) 119 [xP 0 0] [oB 71 (bs (z02 a0))] (z3j r) (z3k r) := by
 refine fnT (cx := cx X) Tryz.f119 Tryz.call119 Tryz.func119 (by kernel_rfl) ?_
 rw [z1p] at h
 obtain ⟨v1, k1, h⟩ := z06 h
 obtain ⟨v2, k2, h⟩ := z06 h
 obtain ⟨v3, k3, h⟩ := z06 h
 obtain ⟨v4, k4, h⟩ := z06 h
 refine adv (ok X) 9 [.s (z1s v1) (z1t v1), .s (z0n v2) (z0o v2), .o [0, 1, 2, 3, 4, 5, 6, 7], .s (z3u v3) (z3v v3), .bl (List.map z1n [v3.2]), .l (List.map z1n v4)] (pA (z22 (X := X) k1) (pA (z0q (X := X) k2) (pA (ih_parse_reader_arm _ _ k3) (pA (blc (e := z1n) (x := v3.2) (z81 _).symm (bl0 z1n)) (pA (apm (L := []) (M := [v3.2]) zd1 k4) pT))))) (by kernel_rfl) ?_
 refine lp (ok X) (z5m (z13 n) (z0p n) (z0z n) (z1v n) (z1p n) (z0i n) (z19 n)) (fun (x1 : ((List z0e) × Int × Int × Int × Int × Int × (List z0m))) => ⟨36, 1, [(0, [xP 0 0]), (2, [xP 1 0]), (3, [xP 2 0])], [oB 71 (bs (z02 (z00.mk x1.1 x1.2.1 x1.2.2.1 x1.2.2.2.1 x1.2.2.2.2.1 x1.2.2.2.2.2.1))), oB 108 [.pv (.int .i64 0), .pv (.str (ByteArray.mk #[])), .pv (.str (ByteArray.mk #[])), .pv (.int .i64 0), .pv (.int .i64 0), .pv (.str (ByteArray.mk #[])), .emp, .pv (.int .i64 0), .pv (.int .i64 0), .pv (.int .i64 0), .pv (.str (ByteArray.mk #[])), .emp, .pv (.int .i64 0), .pv (.int .i64 0), .pv (.str (ByteArray.mk #[])), .emp, .emp, .emp, .emp], oB 108 [.pv (.int .i64 5), .pv (.str v1.2), .pv (.str (ByteArray.mk #[])), .pv (.int .i64 0), .pv (.int .i64 0), .pv (.str (ByteArray.mk #[])), .emp, .pv (.int .i64 0), .pv (.int .i64 0), .pv (.int .i64 0), .pv (.str (ByteArray.mk #[])), .emp, .pv (.int .i64 0), .pv (.int .i64 0), .pv (.str (ByteArray.mk #[])), .emp, .emp, .emp, .row 3], oR true 156 3 (List.map z1n x1.2.2.2.2.2.2)]⟩) (fun (j1 : ((List z0e) × Int × Int × Int × Int × Int × (List z0m))) => ⟨36, 1, [(0, [xP 0 0]), (2, [xP 1 0]), (3, [xP 2 0])], [oB 71 (bs (z02 (z00.mk j1.1 j1.2.1 j1.2.2.1 j1.2.2.2.1 j1.2.2.2.2.1 j1.2.2.2.2.2.1))), oB 108 [.pv (.int .i64 0), .pv (.str (ByteArray.mk #[])), .pv (.str (ByteArray.mk #[])), .pv (.int .i64 0), .pv (.int .i64 0), .pv (.str (ByteArray.mk #[])), .emp, .pv (.int .i64 0), .pv (.int .i64 0), .pv (.int .i64 0), .pv (.str (ByteArray.mk #[])), .emp, .pv (.int .i64 0), .pv (.int .i64 0), .pv (.str (ByteArray.mk #[])), .emp, .emp, .emp, .emp], oB 108 [.pv (.int .i64 5), .pv (.str v1.2), .pv (.str (ByteArray.mk #[])), .pv (.int .i64 0), .pv (.int .i64 0), .pv (.str (ByteArray.mk #[])), .emp, .pv (.int .i64 0), .pv (.int .i64 0), .pv (.int .i64 0), .pv (.str (ByteArray.mk #[])), .emp, .pv (.int .i64 0), .pv (.int .i64 0), .pv (.str (ByteArray.mk #[])), .emp, .emp, .emp, .row 3], oR true 156 3 (List.map z1n j1.2.2.2.2.2.2)]⟩) zft (v3.1.f_l, v3.1.f_end, v3.1.f_e, v3.1.f_at, v3.1.f_deep, v3.1.f_in, v4) (fun _ => ⟨_, _, _, _, rfl⟩) h (by kernel_rfl) (fun x1 o h => ?_) (fun r' h => ?_) (fun j1 h => ?_)
 ·unfold z5m at h
  refine adv (ok X) 2 [] pT (by kernel_rfl) ?_
  refine jn (ok X) 1 (fun (j2 : Bool) => ⟨36, 1, [(0, [xP 0 0]), (2, [xP 1 0]), (3, [xP 2 0]), (25, [xB j2])], [oB 71 (bs (z02 (z00.mk x1.1 x1.2.1 x1.2.2.1 x1.2.2.2.1 x1.2.2.2.2.1 x1.2.2.2.2.2.1))), oB 108 [.pv (.int .i64 0), .pv (.str (ByteArray.mk #[])), .pv (.str (ByteArray.mk #[])), .pv (.int .i64 0), .pv (.int .i64 0), .pv (.str (ByteArray.mk #[])), .emp, .pv (.int .i64 0), .pv (.int .i64 0), .pv (.int .i64 0), .pv (.str (ByteArray.mk #[])), .emp, .pv (.int .i64 0), .pv (.int .i64 0), .pv (.str (ByteArray.mk #[])), .emp, .emp, .emp, .emp], oB 108 [.pv (.int .i64 5), .pv (.str v1.2), .pv (.str (ByteArray.mk #[])), .pv (.int .i64 0), .pv (.int .i64 0), .pv (.str (ByteArray.mk #[])), .emp, .pv (.int .i64 0), .pv (.int .i64 0), .pv (.int .i64 0), .pv (.str (ByteArray.mk #[])), .emp, .pv (.int .i64 0), .pv (.int .i64 0), .pv (.str (ByteArray.mk #[])), .emp, .emp, .emp, .row 3], oR true 156 3 (List.map z1n x1.2.2.2.2.2.2)]⟩) h (fun j2 h => ?_) (fun j2 h => ?_)
  ·rcases iteE h with ⟨k5, h⟩ | ⟨k5, h⟩
   ·obtain ⟨v5, k6, h⟩ := z06 h
    obtain rfl := retE h
    exact fin (ok X) 1 [.b true, .b true, .s (z4s v5) (z4t (z00.mk x1.1 x1.2.1 x1.2.2.1 x1.2.2.2.1 x1.2.2.2.2.1 x1.2.2.2.2.2.1) v5), .b true, .b true] (pA k5 (pA k5 (pA (z59 (X := X) k6) (pA k5 (pA k5 pT))))) (by kernel_rfl)
   ·obtain rfl := retE h
    exact fin (ok X) 1 (bF 4 []) (pR 4 k5 pT) (by kernel_rfl)
  ·rcases iteE h with ⟨k7, h⟩ | ⟨k7, h⟩
   ·obtain ⟨v6, k8, h⟩ := z06 h
    obtain ⟨v7, k9, h⟩ := z06 h
    obtain rfl := retE h
    exact fin (ok X) 5 [.b true, .o [0, 1, 2, 3, 4, 5, 6, 7], .s (z3u v6) (z3v v6), .bl (List.map z1n [v6.2]), .l (List.map z1n v7)] (pA k7 (pA (ih_parse_reader_arm _ _ k8) (pA (blc (e := z1n) (x := v6.2) (z81 _).symm (bl0 z1n)) (pA (apm (L := x1.2.2.2.2.2.2) (M := [v6.2]) zd1 k9) pT)))) (by kernel_rfl)
   ·obtain rfl := retE h
    exact fin (ok X) 2 [.b false] (pA k7 pT) (by kernel_rfl)
 ·cases h
 ·obtain ⟨v8, k10, h⟩ := z06 h
  obtain rfl := retE h
  exact fin (ok X) 5 [.s (z0n v8) (z0o v8)] (pA (z0q (X := X) k10) pT) (by kernel_rfl)

theorem zf6 {n : Nat} (ih_parse_reader_stmts : ∀ (a0 : z00) (r : (z00 × (List z03))), z13 n a0 = some r → Cs Tryz.prog (GX X) 61 [xP 0 0] [oB 71 (bs (z02 a0))] (z2r r) (z2s r)) (ih_parse_reader_stmt : ∀ (a0 : z00) (r : (z00 × z03 × Bool)), z0p n a0 = some r → Cs Tryz.prog (GX X) 98 [xP 0 0] [oB 71 (bs (z02 a0))] (z3w r) (z3x r)) (ih_parse_reader_conditional : ∀ (a0 : z00) (r : (z00 × z03)), z0z n a0 = some r → Cs Tryz.prog (GX X) 116 [xP 0 0] [oB 71 (bs (z02 a0))] (z2i r) (z2j r)) (ih_parse_reader_loop : ∀ (a0 : z00) (r : (z00 × z03)), z1v n a0 = some r → Cs Tryz.prog (GX X) 117 [xP 0 0] [oB 71 (bs (z02 a0))] (z3y r) (z3z r)) (ih_parse_reader_recv : ∀ (a0 : z00) (r : (z00 × z03)), z1p n a0 = some r → Cs Tryz.prog (GX X) 119 [xP 0 0] [oB 71 (bs (z02 a0))] (z3j r) (z3k r)) (ih_parse_reader_block : ∀ (a0 : z00) (r : (z00 × (List z03))), z0i n a0 = some r → Cs Tryz.prog (GX X) 140 [xP 0 0] [oB 71 (bs (z02 a0))] (z2t r) (z2u r)) (ih_parse_reader_arm : ∀ (a0 : z00) (r : (z00 × z0m)), z19 n a0 = some r → Cs Tryz.prog (GX X) 142 [xP 0 0] [oB 71 (bs (z02 a0))] (z3u r) (z3v r)) (a0 : z00) (r : (z00 × (List z03))) (h : z0i (n + 1) a0 = some r) : Cs Tryz.prog (GX X) 140 [xP 0 0] [oB 71 (bs (z02 a0))] (z2t r) (z2u r) := by
 refine fnT (cx := cx X) Tryz.f140 Tryz.call140 Tryz.func140 (by kernel_rfl) ?_
 rw [z0i] at h
 refine adv (ok X) 4 [] pT (by kernel_rfl) ?_
 refine jn (ok X) 1 (fun (j1 : Bool) => ⟨36, 1, [(0, [xP 0 0]), (12, [xB j1])], [oB 71 (bs (z02 a0))]⟩) h (fun j1 h => ?_) (fun j1 h => ?_)
 ·obtain ⟨v1, k1, h⟩ := z06 h
  rcases iteE h with ⟨k2, h⟩ | ⟨k2, h⟩
  ·obtain rfl := retE h
   exact fin (ok X) 1 (.s (z4s v1) (z4t a0 v1) :: bT 6 []) (pA (z59 (X := X) k1) (pR 6 k2 pT)) (by kernel_rfl)
  ·obtain rfl := retE h
   exact fin (ok X) 1 (.s (z4s v1) (z4t a0 v1) :: bF 6 []) (pA (z59 (X := X) k1) (pR 6 k2 pT)) (by kernel_rfl)
 ·rcases iteE h with ⟨k3, h⟩ | ⟨k3, h⟩
  ·obtain ⟨v2, k4, h⟩ := z06 h
   obtain rfl := retE h
   exact fin (ok X) 6 [.b true, .s (z4u v2) (z4v v2)] (pA k3 (pA (z5a (X := X) k4) pT)) (by kernel_rfl)
  ·obtain ⟨v3, k5, h⟩ := z06 h
   obtain ⟨v4, k6, h⟩ := z06 h
   obtain ⟨v5, k7, h⟩ := z06 h
   obtain rfl := retE h
   exact fin (ok X) 15 [.b false, .s (z0n v3) (z0o v3), .s (z2r v4) (z2s v4), .s (z0n v5) (z0o v5)] (pA k3 (pA (z0q (X := X) k5) (pA (ih_parse_reader_stmts _ _ k6) (pA (z0q (X := X) k7) pT)))) (by kernel_rfl)

theorem zgw {n : Nat} (ih_parse_reader_stmts : ∀ (a0 : z00) (r : (z00 × (List z03))), z13 n a0 = some r → Cs Tryz.prog (GX X) 61 [xP 0 0] [oB 71 (bs (z02 a0))] (z2r r) (z2s r)) (ih_parse_reader_stmt : ∀ (a0 : z00) (r : (z00 × z03 × Bool)), z0p n a0 = some r → Cs Tryz.prog (GX X) 98 [xP 0 0] [oB 71 (bs (z02 a0))] (z3w r) (z3x r)) (ih_parse_reader_conditional : ∀ (a0 : z00) (r : (z00 × z03)), z0z n a0 = some r → Cs Tryz.prog (GX X) 116 [xP 0 0] [oB 71 (bs (z02 a0))] (z2i r) (z2j r)) (ih_parse_reader_loop : ∀ (a0 : z00) (r : (z00 × z03)), z1v n a0 = some r → Cs Tryz.prog (GX X) 117 [xP 0 0] [oB 71 (bs (z02 a0))] (z3y r) (z3z r)) (ih_parse_reader_recv : ∀ (a0 : z00) (r : (z00 × z03)), z1p n a0 = some r → Cs Tryz.prog (GX X) 119 [xP 0 0] [oB 71 (bs (z02 a0))] (z3j r) (z3k r)) (ih_parse_reader_block : ∀ (a0 : z00) (r : (z00 × (List z03))), z0i n a0 = some r → Cs Tryz.prog (GX X) 140 [xP 0 0] [oB 71 (bs (z02 a0))] (z2t r) (z2u r)) (ih_parse_reader_arm : ∀ (a0 : z00) (r : (z00 × z0m)), z19 n a0 = some r → Cs Tryz.prog (GX X) 142 [xP 0 0] [oB 71 (bs (z02 a0))] (z3u r) (z3v r)) (a0 : z00) (r : (z00 × z0m)) (h : z19 (n + 1) a0 = some r) : Cs Tryz.prog (GX X) 142 [xP 0 0] [oB 71 (bs (z02 a0))] (z3u r) (z3v r) := by
 refine fnT (cx := cx X) Tryz.f142 Tryz.call142 Tryz.func142 (by kernel_rfl) ?_
 rw [z19] at h
 obtain ⟨v1, k1, h⟩ := z06 h
 obtain ⟨v2, k2, h⟩ := z06 h
 obtain ⟨v3, k3, h⟩ := z06 h
 obtain ⟨v4, k4, h⟩ := z06 h
 obtain ⟨v5, k5, h⟩ := z06 h
 obtain rfl := retE h
 exact fin (ok X) 15 [.s (z1s v1) (z1t v1), .s (z0n v2) (z0o v2), .s (z1s v3) (z1t v3), .s (z0n v4) (z0o v4), .s (z2t v5) (z2u v5)] (pA (z22 (X := X) k1) (pA (z0q (X := X) k2) (pA (z22 (X := X) k3) (pA (z0q (X := X) k4) (pA (ih_parse_reader_block _ _ k5) pT))))) (by kernel_rfl)

theorem za7 : ∀ n : Nat, (∀ (a0 : z00) (r : (z00 × (List z03))), z13 n a0 = some r → Cs Tryz.prog (GX X) 61 [xP 0 0] [oB 71 (bs (z02 a0))] (z2r r) (z2s r)) ∧ (∀ (a0 : z00) (r : (z00 × z03 × Bool)), z0p n a0 = some r → Cs Tryz.prog (GX X) 98 [xP 0 0] [oB 71 (bs (z02 a0))] (z3w r) (z3x r)) ∧ (∀ (a0 : z00) (r : (z00 × z03)), z0z n a0 = some r → Cs Tryz.prog (GX X) 116 [xP 0 0] [oB 71 (bs (z02 a0))] (z2i r) (z2j r)) ∧ (∀ (a0 : z00) (r : (z00 × z03)), z1v n a0 = some r → Cs Tryz.prog (GX X) 117 [xP 0 0] [oB 71 (bs (z02 a0))] (z3y r) (z3z r)) ∧ (∀ (a0 : z00) (r : (z00 × z03)), z1p n a0 = some r → Cs Tryz.prog (GX X) 119 [xP 0 0] [oB 71 (bs (z02 a0))] (z3j r) (z3k r)) ∧ (∀ (a0 : z00) (r : (z00 × (List z03))), z0i n a0 = some r → Cs Tryz.prog (GX X) 140 [xP 0 0] [oB 71 (bs (z02 a0))] (z2t r) (z2u r)) ∧ (∀ (a0 : z00) (r : (z00 × z0m)), z19 n a0 = some r → Cs Tryz.prog (GX X) 142 [xP 0 0] [oB 71 (bs (z02 a0))] (z3u r) (z3v r))
 | 0 => ⟨(fun _ _ h => by rw [z13] at h; cases h), (fun _ _ h => by rw [z0p] at h; cases h), (fun _ _ h => by rw [z0z] at h; cases h), (fun _ _ h => by rw [z1v] at h; cases h), (fun _ _ h => by rw [z1p] at h; cases h), (fun _ _ h => by rw [z0i] at h; cases h), (fun _ _ h => by rw [z19] at h; cases h)⟩
 | n + 1 => by
  have ih := za7 n
  exact ⟨zf5 ih.1 ih.2.1 ih.2.2.1 ih.2.2.2.1 ih.2.2.2.2.1 ih.2.2.2.2.2.1 ih.2.2.2.2.2.2, zg0 ih.1 ih.2.1 ih.2.2.1 ih.2.2.2.1 ih.2.2.2.2.1 ih.2.2.2.2.2.1 ih.2.2.2.2.2.2, zby ih.1 ih.2.1 ih.2.2.1 ih.2.2.2.1 ih.2.2.2.2.1 ih.2.2.2.2.2.1 ih.2.2.2.2.2.2, zg1 ih.1 ih.2.1 ih.2.2.1 ih.2.2.2.1 ih.2.2.2.2.1 ih.2.2.2.2.2.1 ih.2.2.2.2.2.2, zg2 ih.1 ih.2.1 ih.2.2.1 ih.2.2.2.1 ih.2.2.2.2.1 ih.2.2.2.2.2.1 ih.2.2.2.2.2.2, zf6 ih.1 ih.2.1 ih.2.2.1 ih.2.2.2.1 ih.2.2.2.2.1 ih.2.2.2.2.2.1 ih.2.2.2.2.2.2, zgw ih.1 ih.2.1 ih.2.2.1 ih.2.2.2.1 ih.2.2.2.2.1 ih.2.2.2.2.2.1 ih.2.2.2.2.2.2⟩

theorem zf7 {a0 : z00} {r : (z00 × (List z03))} (h : z66 a0 = some r) : Cs Tryz.prog (GX X) 61 [xP 0 0] [oB 71 (bs (z02 a0))] (z2r r) (z2s r) := by
 obtain ⟨n, hn⟩ := unfE h
 exact (za7 n).1 _ _ hn

theorem zg3 {a0 : z00} {r : (z00 × z2h)} (h : z6h a0 = some r) : Cs Tryz.prog (GX X) 23 [xP 0 0] [oB 71 (bs (z02 a0))] (z9e r) (z9f r) := by
 refine fnT (cx := cx X) Tryz.f23 Tryz.call23 Tryz.func23 (by kernel_rfl) ?_
 unfold z6h at h
 obtain ⟨v1, k1, h⟩ := z06 h
 obtain ⟨v2, k2, h⟩ := z06 h
 refine adv (ok X) 7 [.s (z1s v1) (z1t v1), .s (z0n v2) (z0o v2)] (pA (z22 (X := X) k1) (pA (z0q (X := X) k2) pT)) (by kernel_rfl) ?_
 refine lp (ok X) (z3a) (fun (x1 : ((List z0e) × Int × Int × Int × Int × Int × (List ByteArray))) => ⟨26, 1, [(0, [xP 0 0]), (2, [xP 1 0]), (3, [xP 2 0])], [oB 71 (bs (z02 (z00.mk x1.1 x1.2.1 x1.2.2.1 x1.2.2.2.1 x1.2.2.2.2.1 x1.2.2.2.2.2.1))), oB 81 [.pv (.str (ByteArray.mk #[])), .emp, .emp], oB 81 [.pv (.str v1.2), .row 3, .emp], oR true 9 1 (List.map z0v x1.2.2.2.2.2.2)]⟩) (fun (j1 : ((List z0e) × Int × Int × Int × Int × Int × (List ByteArray))) => ⟨26, 1, [(0, [xP 0 0]), (2, [xP 1 0]), (3, [xP 2 0])], [oB 71 (bs (z02 (z00.mk j1.1 j1.2.1 j1.2.2.1 j1.2.2.2.1 j1.2.2.2.2.1 j1.2.2.2.2.2.1))), oB 81 [.pv (.str (ByteArray.mk #[])), .emp, .emp], oB 81 [.pv (.str v1.2), .row 3, .emp], oR true 9 1 (List.map z0v j1.2.2.2.2.2.2)]⟩) zfu (v2.f_l, v2.f_end, v2.f_e, v2.f_at, v2.f_deep, v2.f_in, []) (fun _ => ⟨_, _, _, _, rfl⟩) h (by kernel_rfl) (fun x1 o h => ?_) (fun r' h => ?_) (fun j1 h => ?_)
 ·unfold z3a at h
  obtain ⟨v3, k3, h⟩ := z06 h
  refine adv (ok X) 3 [.s (z2c v3) (z2d v3)] (pA (z2n (X := X) k3) pT) (by kernel_rfl) ?_
  rcases iteE h with ⟨k4, h⟩ | ⟨k4, h⟩
  ·obtain ⟨v4, k5, h⟩ := z06 h
   obtain ⟨v5, k6, h⟩ := z06 h
   obtain ⟨v6, k7, h⟩ := z06 h
   obtain rfl := retE h
   exact fin (ok X) 7 [.b true, .o [0, 1, 2, 3, 4, 5, 6, 7], .s (z1s v4) (z1t v4), .l (List.map z0v v5), .s (z0n v6) (z0o v6)] (pA k4 (pA (z22 (X := X) k5) (pA (apm (L := x1.2.2.2.2.2.2) (M := [v4.2]) zcp k6) (pA (z0q (X := X) k7) pT)))) (by kernel_rfl)
  ·obtain rfl := retE h
   exact fin (ok X) 2 [.b false] (pA k4 pT) (by kernel_rfl)
 ·cases h
 ·obtain ⟨v7, k8, h⟩ := z06 h
  obtain ⟨v8, k9, h⟩ := z06 h
  obtain rfl := retE h
  exact fin (ok X) 7 [.s (z2r v7) (z2s v7), .s (z0n v8) (z0o v8)] (pA (zf7 (X := X) k8) (pA (z0q (X := X) k9) pT)) (by kernel_rfl)

theorem zb9 {a0 : ByteArray} {r : (z16 × Int × Int)} (h : z6l a0 = some r) : Cv Tryz.prog (GX X) 9 [xS a0] (z7g r) := by
 refine Cs.toV (?_ : Cs Tryz.prog (GX X) 9 [xS a0] [] (z7g r) (zgq r)) (by kernel_rfl)
 refine fnT (cx := cx X) Tryz.f9 Tryz.call9 Tryz.func9 (by kernel_rfl) ?_
 unfold z6l at h
 obtain ⟨v1, k1, h⟩ := z06 h
 refine adv (ok X) 7 [.c (ze1 v1)] (pA (zms (X := X) k1) pT) (by kernel_rfl) ?_
 rcases iteE h with ⟨k2, h⟩ | ⟨k2, h⟩
 ·obtain rfl := retE h
  exact fin (ok X) 4 [.b true] (pA k2 pT) (by kernel_rfl)
 ·refine adv (ok X) 7 [.b false] (pA k2 pT) (by kernel_rfl) ?_
  refine lp (ok X) (z5y) (fun (x1 : ((List z0e) × Int × Int × Int × Int × Int × (List z23))) => ⟨76, 0, [(2, [xP 0 0]), (8, [xP 1 0]), (9, [xP 2 0])], [oB 26 [.emp, .emp, .emp], oB 71 (bs (z02 (z00.mk x1.1 x1.2.1 x1.2.2.1 x1.2.2.2.1 x1.2.2.2.2.1 x1.2.2.2.2.2.1))), oB 26 [.row 3, .emp, .emp], oR true 73 6 (List.map z1u x1.2.2.2.2.2.2)]⟩) (fun (j1 : ((List z0e) × Int × Int × Int × Int × Int × (List z23))) => ⟨76, 0, [(2, [xP 0 0]), (8, [xP 1 0]), (9, [xP 2 0])], [oB 26 [.emp, .emp, .emp], oB 71 (bs (z02 (z00.mk j1.1 j1.2.1 j1.2.2.1 j1.2.2.2.1 j1.2.2.2.2.1 j1.2.2.2.2.2.1))), oB 26 [.row 3, .emp, .emp], oR true 73 6 (List.map z1u j1.2.2.2.2.2.2)]⟩) zd6 (v1.1, (a0.size : Int), 0, 0, 0, 0, []) (fun _ => ⟨_, _, _, _, rfl⟩) h (by kernel_rfl) (fun x1 o h => ?_) (fun r' h => ?_) (fun j1 h => ?_)
  ·unfold z5y at h
   obtain ⟨v2, k3, h⟩ := z06 h
   refine adv (ok X) 3 [.s (z2c v2) (z2d v2)] (pA (z2n (X := X) k3) pT) (by kernel_rfl) ?_
   rcases iteE h with ⟨k4, h⟩ | ⟨k4, h⟩
   ·obtain ⟨v3, k5, h⟩ := z06 h
    obtain ⟨v4, k6, h⟩ := z06 h
    obtain rfl := retE h
    exact fin (ok X) 5 [.b true, .o [0, 1, 2, 3, 4, 5, 6, 7], .s (z7q v3) (z7r v3), .l (List.map z1u v4)] (pA k4 (pA (zdm (X := X) k5) (pA (apm (L := x1.2.2.2.2.2.2) (M := [v3.2]) zfc k6) pT))) (by kernel_rfl)
   ·obtain rfl := retE h
    exact fin (ok X) 2 [.b false] (pA k4 pT) (by kernel_rfl)
  ·cases h
  ·refine adv (ok X) 1 [] pT (by kernel_rfl) ?_
   refine lp (ok X) (z5z) (fun (x2 : ((List z0e) × Int × Int × Int × Int × Int × (List z2g))) => ⟨76, 0, [(2, [xP 0 0]), (8, [xP 1 0]), (9, [xP 2 0])], [oB 26 [.emp, .emp, .emp], oB 71 (bs (z02 (z00.mk x2.1 x2.2.1 x2.2.2.1 x2.2.2.2.1 x2.2.2.2.2.1 x2.2.2.2.2.2.1))), oB 26 [.row 3, .row 4, .emp], oR true 73 6 (List.map z1u j1.2.2.2.2.2.2), oR true 77 2 (List.map z28 x2.2.2.2.2.2.2)]⟩) (fun (j2 : ((List z0e) × Int × Int × Int × Int × Int × (List z2g))) => ⟨76, 0, [(2, [xP 0 0]), (8, [xP 1 0]), (9, [xP 2 0])], [oB 26 [.emp, .emp, .emp], oB 71 (bs (z02 (z00.mk j2.1 j2.2.1 j2.2.2.1 j2.2.2.2.1 j2.2.2.2.2.1 j2.2.2.2.2.2.1))), oB 26 [.row 3, .row 4, .emp], oR true 73 6 (List.map z1u j1.2.2.2.2.2.2), oR true 77 2 (List.map z28 j2.2.2.2.2.2.2)]⟩) zd6 (j1.1, j1.2.1, j1.2.2.1, j1.2.2.2.1, j1.2.2.2.2.1, j1.2.2.2.2.2.1, []) (fun _ => ⟨_, _, _, _, rfl⟩) h (by kernel_rfl) (fun x2 o h => ?_) (fun r' h => ?_) (fun j2 h => ?_)
   ·unfold z5z at h
    obtain ⟨v5, k7, h⟩ := z06 h
    refine adv (ok X) 3 [.s (z2c v5) (z2d v5)] (pA (z2n (X := X) k7) pT) (by kernel_rfl) ?_
    rcases iteE h with ⟨k8, h⟩ | ⟨k8, h⟩
    ·obtain ⟨v6, k9, h⟩ := z06 h
     obtain ⟨v7, k10, h⟩ := z06 h
     obtain rfl := retE h
     exact fin (ok X) 5 [.b true, .o [0, 1, 2, 3, 4, 5, 6, 7], .s (z9c v6) (z9d v6), .l (List.map z28 v7)] (pA k8 (pA (zfw (X := X) k9) (pA (apm (L := x2.2.2.2.2.2.2) (M := [v6.2]) zfe k10) pT))) (by kernel_rfl)
    ·obtain rfl := retE h
     exact fin (ok X) 2 [.b false] (pA k8 pT) (by kernel_rfl)
   ·cases h
   ·refine adv (ok X) 1 [] pT (by kernel_rfl) ?_
    refine lp (ok X) (z5e) (fun (x3 : ((List z0e) × Int × Int × Int × Int × Int × (List z2h))) => ⟨76, 0, [(2, [xP 0 0]), (8, [xP 1 0]), (9, [xP 2 0])], [oB 26 [.emp, .emp, .emp], oB 71 (bs (z02 (z00.mk x3.1 x3.2.1 x3.2.2.1 x3.2.2.2.1 x3.2.2.2.2.1 x3.2.2.2.2.2.1))), oB 26 [.row 3, .row 4, .row 5], oR true 73 6 (List.map z1u j1.2.2.2.2.2.2), oR true 77 2 (List.map z28 j2.2.2.2.2.2.2), oR true 81 3 (List.map z0k x3.2.2.2.2.2.2)]⟩) (fun (j3 : ((List z0e) × Int × Int × Int × Int × Int × (List z2h))) => ⟨76, 0, [(2, [xP 0 0]), (8, [xP 1 0]), (9, [xP 2 0])], [oB 26 [.emp, .emp, .emp], oB 71 (bs (z02 (z00.mk j3.1 j3.2.1 j3.2.2.1 j3.2.2.2.1 j3.2.2.2.2.1 j3.2.2.2.2.2.1))), oB 26 [.row 3, .row 4, .row 5], oR true 73 6 (List.map z1u j1.2.2.2.2.2.2), oR true 77 2 (List.map z28 j2.2.2.2.2.2.2), oR true 81 3 (List.map z0k j3.2.2.2.2.2.2)]⟩) zd6 (j2.1, j2.2.1, j2.2.2.1, j2.2.2.2.1, j2.2.2.2.2.1, j2.2.2.2.2.2.1, []) (fun _ => ⟨_, _, _, _, rfl⟩) h (by kernel_rfl) (fun x3 o h => ?_) (fun r' h => ?_) (fun j3 h => ?_)
    ·unfold z5e at h
     obtain ⟨v8, k11, h⟩ := z06 h
     refine adv (ok X) 3 [.s (z2c v8) (z2d v8)] (pA (z2n (X := X) k11) pT) (by kernel_rfl) ?_
     rcases iteE h with ⟨k12, h⟩ | ⟨k12, h⟩
     ·obtain ⟨v9, k13, h⟩ := z06 h
      obtain ⟨v10, k14, h⟩ := z06 h
      obtain rfl := retE h
      exact fin (ok X) 5 [.b true, .o [0, 1, 2, 3, 4, 5, 6, 7], .s (z9e v9) (z9f v9), .l (List.map z0k v10)] (pA k12 (pA (zg3 (X := X) k13) (pA (apm (L := x3.2.2.2.2.2.2) (M := [v9.2]) zff k14) pT))) (by kernel_rfl)
     ·obtain rfl := retE h
      exact fin (ok X) 2 [.b false] (pA k12 pT) (by kernel_rfl)
    ·cases h
    ·refine adv (ok X) 3 [.i (j3.1.length : Int)] (pA (lm z1c j3.1) pT) (by kernel_rfl) ?_
     rcases iteE h with ⟨k15, h⟩ | ⟨k15, h⟩
     ·obtain ⟨v11, k16, h⟩ := z06 h
      refine adv (ok X) 5 [.b true, .s (z4u v11) (z4v v11)] (pA k15 (pA (z5a (X := X) k16) pT)) (by kernel_rfl) ?_
      rcases iteE h with ⟨k17, h⟩ | ⟨k17, h⟩
      ·obtain rfl := retE h
       exact fin (ok X) 4 [.b true, .o [0, 1, 2, 3, 4, 5, 6, 7, 8, 9, 10, 11]] (pA k17 pT) (by kernel_rfl)
      ·obtain rfl := retE h
       exact fin (ok X) 5 [.b false] (pA k17 pT) (by kernel_rfl)
     ·refine adv (ok X) 5 [.b false] (pA k15 pT) (by kernel_rfl) ?_
      rcases iteE h with ⟨k18, h⟩ | ⟨k18, h⟩
      ·obtain rfl := retE h
       exact fin (ok X) 4 [.b true, .o [0, 1, 2, 3, 4, 5, 6, 7, 8, 9, 10, 11]] (pA k18 pT) (by kernel_rfl)
      ·obtain rfl := retE h
       exact fin (ok X) 5 [.b false] (pA k18 pT) (by kernel_rfl)

theorem zeb {r : Bool} (h : zbg = some r) : Cv Tryz.prog (GX X) 11 [] (zav r) := by
 refine Cs.toV (?_ : Cs Tryz.prog (GX X) 11 [] [] (zav r) (zmn r)) (by kernel_rfl)
 refine fnT (cx := cx X) Tryz.f11 Tryz.call11 Tryz.func11 (by kernel_rfl) ?_
 unfold zbg at h
 obtain ⟨v1, k1, h⟩ := z06 h
 obtain ⟨v2, k2, h⟩ := z06 h
 refine adv (ok X) 7 [.c (z7g v1), .c (z7g v2)] (pA (zb9 (X := X) k1) (pA (zb9 (X := X) k2) pT)) (by kernel_rfl) ?_
 refine jn (ok X) 1 (fun (j1 : Bool) => ⟨82, 0, [(0, [xB j1])], []⟩) h (fun j1 h => ?_) (fun j1 h => ?_)
 ·rcases iteE h with ⟨k3, h⟩ | ⟨k3, h⟩
  ·rcases iteE h with ⟨k4, h⟩ | ⟨k4, h⟩
   ·obtain ⟨v3, k5, h⟩ := z06 h
    rcases iteE h with ⟨k6, h⟩ | ⟨k6, h⟩
    ·obtain ⟨v4, k7, h⟩ := z06 h
     obtain ⟨v5, k8, h⟩ := z06 h
     rcases iteE h with ⟨k9, h⟩ | ⟨k9, h⟩
     ·obtain ⟨v6, k10, h⟩ := z06 h
      obtain ⟨v7, k11, h⟩ := z06 h
      rcases iteE h with ⟨k12, h⟩ | ⟨k12, h⟩
      ·obtain ⟨v8, k13, h⟩ := z06 h
       obtain ⟨v9, k14, h⟩ := z06 h
       obtain ⟨v10, k15, h⟩ := z06 h
       rcases iteE h with ⟨k16, h⟩ | ⟨k16, h⟩
       ·rcases iteE h with ⟨k17, h⟩ | ⟨k17, h⟩
        ·obtain rfl := retE h
         exact fin (ok X) 1 (bT 3 (.i (v1.1.Procs.length : Int) :: bT 5 (.e (z0k v3) :: bT 3 (.i (v3.Body.length : Int) :: bT 5 (.e (z0k v4) :: bT 3 (.e (z1q v5) :: bT 8 (.e (z0k v6) :: bT 3 (.e (z1q v7) :: bT 4 (.i (v7.E.Kids.length : Int) :: bT 5 (.e (z0k v8) :: bT 3 (.e (z1q v9) :: bT 4 (.e (z0d v10) :: bT 10 [])))))))))))) (pR 3 k3 (pA (lm z0k v1.1.Procs) (pA k3 (pA k3 (pR 3 k4 (pA (ixm z0k k5) (pR 3 k4 (pA (lm z0j v3.Body) (pA k4 (pA k4 (pR 3 k6 (pA (ixm z0k k7) (pR 3 k6 (pA (ixr z3l k8) (pR 5 k6 (pR 3 k9 (pA (ixm z0k k10) (pR 3 k9 (pA (ixr z3l k11) (pR 4 k9 (pA (lm z0w v7.E.Kids) (pA k9 (pA k9 (pR 3 k12 (pA (ixm z0k k13) (pR 3 k12 (pA (ixr z3l k14) (pR 4 k12 (pA (ixr z42 k15) (pR 4 k12 (pR 3 k16 (pR 3 k17 pT)))))))))))))))))))))))))))))))) (by kernel_rfl)
        ·obtain rfl := retE h
         exact fin (ok X) 1 (bT 3 (.i (v1.1.Procs.length : Int) :: bT 5 (.e (z0k v3) :: bT 3 (.i (v3.Body.length : Int) :: bT 5 (.e (z0k v4) :: bT 3 (.e (z1q v5) :: bT 8 (.e (z0k v6) :: bT 3 (.e (z1q v7) :: bT 4 (.i (v7.E.Kids.length : Int) :: bT 5 (.e (z0k v8) :: bT 3 (.e (z1q v9) :: bT 4 (.e (z0d v10) :: bT 7 (bF 3 []))))))))))))) (pR 3 k3 (pA (lm z0k v1.1.Procs) (pA k3 (pA k3 (pR 3 k4 (pA (ixm z0k k5) (pR 3 k4 (pA (lm z0j v3.Body) (pA k4 (pA k4 (pR 3 k6 (pA (ixm z0k k7) (pR 3 k6 (pA (ixr z3l k8) (pR 5 k6 (pR 3 k9 (pA (ixm z0k k10) (pR 3 k9 (pA (ixr z3l k11) (pR 4 k9 (pA (lm z0w v7.E.Kids) (pA k9 (pA k9 (pR 3 k12 (pA (ixm z0k k13) (pR 3 k12 (pA (ixr z3l k14) (pR 4 k12 (pA (ixr z42 k15) (pR 4 k12 (pR 3 k16 (pR 3 k17 pT)))))))))))))))))))))))))))))))) (by kernel_rfl)
       ·obtain rfl := retE h
        exact fin (ok X) 1 (bT 3 (.i (v1.1.Procs.length : Int) :: bT 5 (.e (z0k v3) :: bT 3 (.i (v3.Body.length : Int) :: bT 5 (.e (z0k v4) :: bT 3 (.e (z1q v5) :: bT 8 (.e (z0k v6) :: bT 3 (.e (z1q v7) :: bT 4 (.i (v7.E.Kids.length : Int) :: bT 5 (.e (z0k v8) :: bT 3 (.e (z1q v9) :: bT 4 (.e (z0d v10) :: bT 4 (bF 6 []))))))))))))) (pR 3 k3 (pA (lm z0k v1.1.Procs) (pA k3 (pA k3 (pR 3 k4 (pA (ixm z0k k5) (pR 3 k4 (pA (lm z0j v3.Body) (pA k4 (pA k4 (pR 3 k6 (pA (ixm z0k k7) (pR 3 k6 (pA (ixr z3l k8) (pR 5 k6 (pR 3 k9 (pA (ixm z0k k10) (pR 3 k9 (pA (ixr z3l k11) (pR 4 k9 (pA (lm z0w v7.E.Kids) (pA k9 (pA k9 (pR 3 k12 (pA (ixm z0k k13) (pR 3 k12 (pA (ixr z3l k14) (pR 4 k12 (pA (ixr z42 k15) (pR 4 k12 (pR 3 k16 (pR 3 ff pT)))))))))))))))))))))))))))))))) (by kernel_rfl)
      ·obtain rfl := retE h
       exact fin (ok X) 1 (bT 3 (.i (v1.1.Procs.length : Int) :: bT 5 (.e (z0k v3) :: bT 3 (.i (v3.Body.length : Int) :: bT 5 (.e (z0k v4) :: bT 3 (.e (z1q v5) :: bT 8 (.e (z0k v6) :: bT 3 (.e (z1q v7) :: bT 4 (.i (v7.E.Kids.length : Int) :: .b true :: .b true :: bF 20 []))))))))) (pR 3 k3 (pA (lm z0k v1.1.Procs) (pA k3 (pA k3 (pR 3 k4 (pA (ixm z0k k5) (pR 3 k4 (pA (lm z0j v3.Body) (pA k4 (pA k4 (pR 3 k6 (pA (ixm z0k k7) (pR 3 k6 (pA (ixr z3l k8) (pR 5 k6 (pR 3 k9 (pA (ixm z0k k10) (pR 3 k9 (pA (ixr z3l k11) (pR 4 k9 (pA (lm z0w v7.E.Kids) (pA k9 (pA k9 (pR 14 k12 (pR 6 ff pT))))))))))))))))))))))))) (by kernel_rfl)
     ·obtain rfl := retE h
      exact fin (ok X) 1 (bT 3 (.i (v1.1.Procs.length : Int) :: bT 5 (.e (z0k v3) :: bT 3 (.i (v3.Body.length : Int) :: bT 5 (.e (z0k v4) :: bT 3 (.e (z1q v5) :: bT 5 (bF 32 []))))))) (pR 3 k3 (pA (lm z0k v1.1.Procs) (pA k3 (pA k3 (pR 3 k4 (pA (ixm z0k k5) (pR 3 k4 (pA (lm z0j v3.Body) (pA k4 (pA k4 (pR 3 k6 (pA (ixm z0k k7) (pR 3 k6 (pA (ixr z3l k8) (pR 5 k6 (pR 12 k9 (pR 20 ff pT))))))))))))))))) (by kernel_rfl)
    ·obtain rfl := retE h
     exact fin (ok X) 1 (bT 3 (.i (v1.1.Procs.length : Int) :: bT 5 (.e (z0k v3) :: bT 3 (.i (v3.Body.length : Int) :: .b true :: .b true :: bF 43 [])))) (pR 3 k3 (pA (lm z0k v1.1.Procs) (pA k3 (pA k3 (pR 3 k4 (pA (ixm z0k k5) (pR 3 k4 (pA (lm z0j v3.Body) (pA k4 (pA k4 (pR 11 k6 (pR 32 ff pT)))))))))))) (by kernel_rfl)
   ·obtain rfl := retE h
    exact fin (ok X) 1 (bT 3 (.i (v1.1.Procs.length : Int) :: .b true :: .b true :: bF 51 [])) (pR 3 k3 (pA (lm z0k v1.1.Procs) (pA k3 (pA k3 (pR 8 k4 (pR 43 ff pT)))))) (by kernel_rfl)
  ·obtain rfl := retE h
   exact fin (ok X) 1 (bF 56 []) (pR 5 k3 (pR 51 ff pT)) (by kernel_rfl)
 ·obtain rfl := retE h
  exact fin (ok X) 1 [] pT (by kernel_rfl)

theorem zom {a0 : (List z3s)} {a1 : (List z3s)} {r : Bool} (h : ze3 a0 a1 = some r) : Cv Tryz.prog (GX X) 35 [xL (List.map z3o a0), xL (List.map z3o a1)] (zd7 r) := by
 refine Cs.toV (?_ : Cs Tryz.prog (GX X) 35 [xL (List.map z3o a0), xL (List.map z3o a1)] [] (zd7 r) (zjb r)) (by kernel_rfl)
 refine fnT (cx := cx X) Tryz.f35 Tryz.call35 Tryz.func35 (by kernel_rfl) ?_
 unfold ze3 at h
 refine adv (ok X) 5 [.i (a0.length : Int), .i (a1.length : Int)] (pA (lm z3o a0) (pA (lm z3o a1) pT)) (by kernel_rfl) ?_
 rcases iteE h with ⟨k1, h⟩ | ⟨k1, h⟩
 ·obtain rfl := retE h
  exact fin (ok X) 4 [.b true] (pA k1 pT) (by kernel_rfl)
 ·refine adv (ok X) 5 [.b false, .i (a0.length : Int)] (pA k1 (pA (lm z3o a0) pT)) (by kernel_rfl) ?_
  refine lp (ok X) (z9n a0 a1) (fun (x1 : Int) => ⟨26, 0, [(0, [xL (List.map z3o a0)]), (1, [xL (List.map z3o a1)]), (12, [xI (a0.length : Int)]), (13, [xI x1])], []⟩) (fun (j1 : Unit) => ⟨26, 0, [], []⟩) zog 0 (fun _ => ⟨_, _, _, _, rfl⟩) h (by kernel_rfl) (fun x1 o h => ?_) (fun r' h => ?_) (fun j1 h => ?_)
  ·unfold z9n at h
   rcases iteE h with ⟨k2, h⟩ | ⟨k2, h⟩
   ·obtain ⟨v1, k3, h⟩ := z06 h
    obtain ⟨v2, k4, h⟩ := z06 h
    refine adv (ok X) 11 [.b true, .o [0, 1, 2, 3, 4, 5, 6, 7, 8], .e (z3o v1), .e (z3o v2)] (pA k2 (pA (ixm z3o k3) (pA (ixm z3o k4) pT))) (by kernel_rfl) ?_
    rcases iteE h with ⟨k5, h⟩ | ⟨k5, h⟩
    ·obtain rfl := retE h
     exact fin (ok X) 4 [.b true] (pA k5 pT) (by kernel_rfl)
    ·obtain rfl := retE h
     exact fin (ok X) 4 [.b false] (pA k5 pT) (by kernel_rfl)
   ·obtain rfl := retE h
    exact fin (ok X) 5 [.b false] (pA k2 pT) (by kernel_rfl)
  ·obtain rfl := retE h
   kernel_rfl
  ·obtain rfl := retE h
   exact fin (ok X) 3 [] pT (by kernel_rfl)

theorem zmt {a0 : z2g} {a1 : z2g} {r : Bool} (h : zeu a0 a1 = some r) : Cv Tryz.prog (GX X) 34 [.agg (bs (z28 a0)), .agg (bs (z28 a1))] (ze4 r) := by
 refine Cs.toV (?_ : Cs Tryz.prog (GX X) 34 [.agg (bs (z28 a0)), .agg (bs (z28 a1))] [] (ze4 r) (zmo r)) (by kernel_rfl)
 refine fnT (cx := cx X) Tryz.f34 Tryz.call34 Tryz.func34 (by kernel_rfl) ?_
 unfold zeu at h
 rcases iteE h with ⟨k1, h⟩ | ⟨k1, h⟩
 ·obtain ⟨v1, k2, h⟩ := z06 h
  obtain rfl := retE h
  exact fin (ok X) 5 (bT 5 [.c (zd7 v1), .b true]) (pR 5 k1 (pA (zom (X := X) k2) (pA k1 pT))) (by kernel_rfl)
 ·obtain rfl := retE h
  exact fin (ok X) 5 (bF 6 []) (pR 6 k1 pT) (by kernel_rfl)

theorem zdo {a0 : (List z2g)} {a1 : (List z2g)} {r : Bool} (h : z6b a0 a1 = some r) : Cv Tryz.prog (GX X) 33 [xL (List.map z28 a0), xL (List.map z28 a1), .fn (.func 34) [] []] (z6p r) := by
 refine Cs.toV (?_ : Cs Tryz.prog (GX X) 33 [xL (List.map z28 a0), xL (List.map z28 a1), .fn (.func 34) [] []] [] (z6p r) (za4 r)) (by kernel_rfl)
 refine fnT (cx := cx X) Tryz.f33 Tryz.call33 Tryz.func33 (by kernel_rfl) ?_
 unfold z6b at h
 refine adv (ok X) 5 [.i (a0.length : Int), .i (a1.length : Int)] (pA (lm z28 a0) (pA (lm z28 a1) pT)) (by kernel_rfl) ?_
 rcases iteE h with ⟨k1, h⟩ | ⟨k1, h⟩
 ·obtain rfl := retE h
  exact fin (ok X) 4 [.b true] (pA k1 pT) (by kernel_rfl)
 ·refine adv (ok X) 5 [.b false, .i (a0.length : Int)] (pA k1 (pA (lm z28 a0) pT)) (by kernel_rfl) ?_
  refine lp (ok X) (z50 a0 a1) (fun (x1 : Int) => ⟨32, 0, [(1, [xL (List.map z28 a1)]), (2, [.fn (.func 34) [] []]), (15, [xL (List.map z28 a0)]), (16, [xI (a0.length : Int)]), (17, [xI x1])], []⟩) (fun (j1 : Unit) => ⟨32, 0, [], []⟩) zdj 0 (fun _ => ⟨_, _, _, _, rfl⟩) h (by kernel_rfl) (fun x1 o h => ?_) (fun r' h => ?_) (fun j1 h => ?_)
  ·unfold z50 at h
   rcases iteE h with ⟨k2, h⟩ | ⟨k2, h⟩
   ·obtain ⟨v1, k3, h⟩ := z06 h
    obtain ⟨v2, k4, h⟩ := z06 h
    obtain ⟨v3, k5, h⟩ := z06 h
    refine adv (ok X) 13 [.b true, .e (z28 v1), .e (z28 v2), .c (ze4 v3)] (pA k2 (pA (ixm z28 k3) (pA (ixm z28 k4) (pA (zmt (X := X) k5) pT)))) (by kernel_rfl) ?_
    rcases iteE h with ⟨k6, h⟩ | ⟨k6, h⟩
    ·obtain rfl := retE h
     exact fin (ok X) 4 [.b true] (pA k6 pT) (by kernel_rfl)
    ·obtain rfl := retE h
     exact fin (ok X) 4 [.b false] (pA k6 pT) (by kernel_rfl)
   ·obtain rfl := retE h
    exact fin (ok X) 5 [.b false] (pA k2 pT) (by kernel_rfl)
  ·obtain rfl := retE h
   kernel_rfl
  ·obtain rfl := retE h
   exact fin (ok X) 3 [] pT (by kernel_rfl)

theorem z68 {a0 : (List ByteArray)} {a1 : (List ByteArray)} {r : Bool} (h : z45 a0 a1 = some r) : Cv Tryz.prog (GX X) 38 [xL (List.map z0v a0), xL (List.map z0v a1)] (z3r r) := by
 refine Cs.toV (?_ : Cs Tryz.prog (GX X) 38 [xL (List.map z0v a0), xL (List.map z0v a1)] [] (z3r r) (z7k r)) (by kernel_rfl)
 refine fnT (cx := cx X) Tryz.f38 Tryz.call38 Tryz.func38 (by kernel_rfl) ?_
 unfold z45 at h
 refine adv (ok X) 5 [.i (a0.length : Int), .i (a1.length : Int)] (pA (lm z0v a0) (pA (lm z0v a1) pT)) (by kernel_rfl) ?_
 rcases iteE h with ⟨k1, h⟩ | ⟨k1, h⟩
 ·obtain rfl := retE h
  exact fin (ok X) 4 [.b true] (pA k1 pT) (by kernel_rfl)
 ·refine adv (ok X) 5 [.b false, .i (a0.length : Int)] (pA k1 (pA (lm z0v a0) pT)) (by kernel_rfl) ?_
  refine lp (ok X) (z3p a0 a1) (fun (x1 : Int) => ⟨26, 0, [(0, [xL (List.map z0v a0)]), (1, [xL (List.map z0v a1)]), (12, [xI (a0.length : Int)]), (13, [xI x1])], []⟩) (fun (j1 : Unit) => ⟨26, 0, [], []⟩) zb0 0 (fun _ => ⟨_, _, _, _, rfl⟩) h (by kernel_rfl) (fun x1 o h => ?_) (fun r' h => ?_) (fun j1 h => ?_)
  ·unfold z3p at h
   rcases iteE h with ⟨k2, h⟩ | ⟨k2, h⟩
   ·obtain ⟨v1, k3, h⟩ := z06 h
    obtain ⟨v2, k4, h⟩ := z06 h
    refine adv (ok X) 11 [.b true, .o [0, 1, 2, 3, 4, 5, 6, 7, 8], .e [.str v1], .e [.str v2]] (pA k2 (pA (ixm z0v k3) (pA (ixm z0v k4) pT))) (by kernel_rfl) ?_
    rcases iteE h with ⟨k5, h⟩ | ⟨k5, h⟩
    ·obtain rfl := retE h
     exact fin (ok X) 4 [.b true] (pA k5 pT) (by kernel_rfl)
    ·obtain rfl := retE h
     exact fin (ok X) 4 [.b false] (pA k5 pT) (by kernel_rfl)
   ·obtain rfl := retE h
    exact fin (ok X) 5 [.b false] (pA k2 pT) (by kernel_rfl)
  ·obtain rfl := retE h
   kernel_rfl
  ·obtain rfl := retE h
   exact fin (ok X) 3 [] pT (by kernel_rfl)
end Go.Proofs.YtokjbpmjdcbogaaGreatDoor.Abs

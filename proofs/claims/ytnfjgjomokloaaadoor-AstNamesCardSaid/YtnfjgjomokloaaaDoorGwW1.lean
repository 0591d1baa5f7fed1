/- Gw: the functions are these. -/
import Derived.Test.YtnfjgjomokloaaaDoorGwW0
namespace Go.Proofs.YtnfjgjomokloaaaDoor.Abs
open Go Go.RowKit
set_option linter.unusedVariables false
set_option maxRecDepth 100000
set_option maxHeartbeats 4000000
variable {X : EV}
theorem z0f {r : Bool} (h : z2b = some r) : Cv Tryd.prog (GX X) 7 [] (z0e r) := by
 refine Cs.toV (?_ : Cs Tryd.prog (GX X) 7 [] [] (z0e r) (ze2 r)) (by kernel_rfl)
 refine fnT (cx := cx X) Tryd.f7 Tryd.call7 Tryd.func7 (by kernel_rfl) ?_
 unfold z2b at h
 obtain ⟨v1, k1, h⟩ := z08 h
 obtain ⟨v2, k2, h⟩ := z08 h
 refine adv (ok X) 9 [.bl (List.map z1e [(z02.mk 2 0 (ByteArray.mk #[97]) []), (z02.mk 1 1 (ByteArray.mk #[]) [])]), .bl (List.map z1e [(z02.mk 4 0 (ByteArray.mk #[]) [(z02.mk 2 0 (ByteArray.mk #[97]) []), (z02.mk 1 1 (ByteArray.mk #[]) [])]), (z02.mk 1 2 (ByteArray.mk #[]) [])]), .bl (List.map z1f [(z0b.mk 1 (ByteArray.mk #[120]) (ByteArray.mk #[]) (z02.mk 6 0 (ByteArray.mk #[]) [(z02.mk 4 0 (ByteArray.mk #[]) [(z02.mk 2 0 (ByteArray.mk #[97]) []), (z02.mk 1 1 (ByteArray.mk #[]) [])]), (z02.mk 1 2 (ByteArray.mk #[]) [])]) (z0x.mk 0 (z02.mk 0 0 (ByteArray.mk #[]) []) (z02.mk 0 0 (ByteArray.mk #[]) [])) [] [] [])]), .c (z1l v1), .c (z2i v2)] (pA (blc (e := z1e) (x := (z02.mk 2 0 (ByteArray.mk #[97]) [])) (z4l _).symm (blc (e := z1e) (x := (z02.mk 1 1 (ByteArray.mk #[]) [])) (z4l _).symm (bl0 z1e))) (pA (blc (e := z1e) (x := (z02.mk 4 0 (ByteArray.mk #[]) [(z02.mk 2 0 (ByteArray.mk #[97]) []), (z02.mk 1 1 (ByteArray.mk #[]) [])])) (z4l _).symm (blc (e := z1e) (x := (z02.mk 1 2 (ByteArray.mk #[]) [])) (z4l _).symm (bl0 z1e))) (pA (blc (e := z1f) (x := (z0b.mk 1 (ByteArray.mk #[120]) (ByteArray.mk #[]) (z02.mk 6 0 (ByteArray.mk #[]) [(z02.mk 4 0 (ByteArray.mk #[]) [(z02.mk 2 0 (ByteArray.mk #[97]) []), (z02.mk 1 1 (ByteArray.mk #[]) [])]), (z02.mk 1 2 (ByteArray.mk #[]) [])]) (z0x.mk 0 (z02.mk 0 0 (ByteArray.mk #[]) []) (z02.mk 0 0 (ByteArray.mk #[]) [])) [] [] [])) (z7y _).symm (bl0 z1f)) (pA (z1x (X := X) k1) (pA (z2q (X := X) k2) pT))))) (by kernel_rfl) ?_
 rcases iteE h with ⟨k3, h⟩ | ⟨k3, h⟩
 ·obtain rfl := retE h
  exact fin (ok X) 2 (bT 3 []) (pR 3 k3 pT) (by kernel_rfl)
 ·obtain rfl := retE h
  exact fin (ok X) 2 (bF 3 []) (pR 3 k3 pT) (by kernel_rfl)

theorem zaw {a0 : ByteArray} {a1 : Int} {r : Bool} (h : z5q a0 a1 = some r) : Cv Tryd.prog (GX X) 4 [xS a0, xI a1] (z7b r) := by
 refine Cs.toV (?_ : Cs Tryd.prog (GX X) 4 [xS a0, xI a1] [] (z7b r) (zaq r)) (by kernel_rfl)
 refine fnT (cx := cx X) Tryd.f4 Tryd.call4 Tryd.func4 (by kernel_rfl) ?_
 unfold z5q at h
 obtain ⟨v1, k1, h⟩ := z08 h
 obtain ⟨v2, k2, h⟩ := z08 h
 refine adv (ok X) 12 [.x [xS v1], .ox, .ox, .ox, .ox, .ox, .ox, .ox, .ox, .i v2] (pA k1 (pA k2 pT)) (by kernel_rfl) ?_
 rcases iteE h with ⟨k3, h⟩ | ⟨k3, h⟩
 ·obtain ⟨v3, k4, h⟩ := z08 h
  refine adv (ok X) 6 [.b true, .n 0, .c (z2k v3)] (pA k3 (pA (rfl : inA 1 (0 : Int) = some 0) (pA (z33 (X := X) k4) pT))) (by kernel_rfl) ?_
  refine jn (ok X) 1 (fun (j1 : Bool) => ⟨198, 0, [(5, [xP 8 0]), (9, [xB j1])], [oB 9 [.pv (.str (ByteArray.mk #[97]))], oB 52 [.pv (.str v1), .pv (.int .i64 0), .pv (.int .i64 1), .pv (.str (ByteArray.mk #[112])), .pv (.str (ByteArray.mk #[113])), .bx 0 1], oB 54 (bs (z23 (z1p.mk 0 (ByteArray.mk #[97]) 0))), oB 57 [.pv (.str (ByteArray.mk #[99])), .bx 2 1], oB 9 [.pv (.str (ByteArray.mk #[120]))], oB 59 [.pv (.str (ByteArray.mk #[97])), .pv (.str (ByteArray.mk #[120])), .emp], oB 39 [.pv (.int .i64 7), .pv (.str (ByteArray.mk #[120])), .pv (.str (ByteArray.mk #[])), .pv (.int .i64 0), .pv (.int .i64 0), .pv (.str (ByteArray.mk #[])), .emp, .pv (.int .i64 0), .pv (.int .i64 0), .pv (.int .i64 0), .pv (.str (ByteArray.mk #[])), .emp, .pv (.int .i64 0), .pv (.int .i64 0), .pv (.str (ByteArray.mk #[])), .emp, .emp, .emp, .emp, .pv (.int .i64 4), .pv (.str (ByteArray.mk #[99])), .pv (.str (ByteArray.mk #[97])), .pv (.int .i64 2), .pv (.int .i64 0), .pv (.str (ByteArray.mk #[120])), .emp, .pv (.int .i64 0), .pv (.int .i64 0), .pv (.int .i64 0), .pv (.str (ByteArray.mk #[])), .emp, .pv (.int .i64 0), .pv (.int .i64 0), .pv (.str (ByteArray.mk #[])), .emp, .emp, .emp, .emp, .pv (.int .i64 5), .pv (.str (ByteArray.mk #[99])), .pv (.str (ByteArray.mk #[])), .pv (.int .i64 0), .pv (.int .i64 0), .pv (.str (ByteArray.mk #[])), .emp, .pv (.int .i64 0), .pv (.int .i64 0), .pv (.int .i64 0), .pv (.str (ByteArray.mk #[])), .emp, .pv (.int .i64 0), .pv (.int .i64 0), .pv (.str (ByteArray.mk #[])), .emp, .emp, .emp, .bx 5 1], oB 26 [.pv (.str (ByteArray.mk #[112])), .bx 4 1, .bx 6 3], oB 31 [.bx 1 1, .bx 3 1, .bx 7 1]]⟩) h (fun j1 h => ?_) (fun j1 h => ?_)
  ·rcases iteE h with ⟨k5, h⟩ | ⟨k5, h⟩
   ·rcases iteE h with ⟨k6, h⟩ | ⟨k6, h⟩
    ·obtain ⟨v4, k7, h⟩ := z08 h
     rcases iteE h with ⟨k8, h⟩ | ⟨k8, h⟩
     ·obtain ⟨v5, k9, h⟩ := z08 h
      obtain rfl := retE h
      exact fin (ok X) 1 (.b true :: .b true :: .i (v3.1.length : Int) :: bT 4 (.e (z01 v4) :: bT 6 (.e (z01 v5) :: bT 5 []))) (pA k5 (pA k5 (pA (lm z01 v3.1) (pA k5 (pA k5 (pA k6 (pA k6 (pA (ixm z01 k7) (pR 4 k6 (pA k8 (pA k8 (pA (ixm z01 k9) (pR 5 k8 pT))))))))))))) (by kernel_rfl)
     ·obtain rfl := retE h
      exact fin (ok X) 1 (.b true :: .b true :: .i (v3.1.length : Int) :: bT 4 (.e (z01 v4) :: bT 4 (bF 7 []))) (pA k5 (pA k5 (pA (lm z01 v3.1) (pA k5 (pA k5 (pA k6 (pA k6 (pA (ixm z01 k7) (pR 4 k6 (pR 7 k8 pT)))))))))) (by kernel_rfl)
    ·obtain rfl := retE h
     exact fin (ok X) 1 (.b true :: .b true :: .i (v3.1.length : Int) :: .b true :: .b true :: bF 13 []) (pA k5 (pA k5 (pA (lm z01 v3.1) (pA k5 (pA k5 (pR 6 k6 (pR 7 ff pT))))))) (by kernel_rfl)
   ·obtain rfl := retE h
    exact fin (ok X) 1 (bF 17 []) (pR 4 k5 (pR 13 ff pT)) (by kernel_rfl)
  ·obtain ⟨v6, k10, h⟩ := z08 h
   obtain ⟨v7, k11, h⟩ := z08 h
   refine adv (ok X) 3 [.z (.fb 0 1 1), .z (.fb 1 1 6), .z (.fb 2 1 3), .z (.fb 3 1 2), .z (.fb 4 1 1), .z (.nb 5), .z (.fb 5 1 3), .z (.nb 6), .z (.fb 6 3 19), .z (.fb 7 1 3), .c (z1l v6), .c (z2i v7)] (pA (z1x (X := X) k10) (pA (z2q (X := X) k11) pT)) (by kernel_rfl) ?_
   obtain ⟨v8, k12, h⟩ := z08 h
   rcases iteE h with ⟨k13, h⟩ | ⟨k13, h⟩
   ·rcases iteE h with ⟨k14, h⟩ | ⟨k14, h⟩
    ·rcases iteE h with ⟨k15, h⟩ | ⟨k15, h⟩
     ·obtain rfl := retE h
      exact fin (ok X) 2 (.c (z0e v8) :: bT 13 []) (pA (z0f (X := X) k12) (pR 5 k13 (pR 3 k14 (pA k15 (pA k15 (pA k14 (pA k15 (pA k14 pT)))))))) (by kernel_rfl)
     ·obtain rfl := retE h
      exact fin (ok X) 2 (.c (z0e v8) :: bT 8 [.b false, .b false, .b true, .b false, .b true]) (pA (z0f (X := X) k12) (pR 5 k13 (pR 3 k14 (pA k15 (pA k15 (pA k14 (pA k15 (pA k14 pT)))))))) (by kernel_rfl)
    ·obtain rfl := retE h
     exact fin (ok X) 2 (.c (z0e v8) :: bT 5 (bF 5 [])) (pA (z0f (X := X) k12) (pR 5 k13 (pR 5 k14 pT))) (by kernel_rfl)
   ·obtain rfl := retE h
    exact fin (ok X) 2 (.c (z0e v8) :: bF 10 []) (pA (z0f (X := X) k12) (pR 5 k13 (pR 5 ff pT))) (by kernel_rfl)
 ·refine adv (ok X) 3 [.b false] (pA k3 pT) (by kernel_rfl) ?_
  rcases iteE h with ⟨k16, h⟩ | ⟨k16, h⟩
  ·obtain ⟨v9, k17, h⟩ := z08 h
   refine adv (ok X) 6 [.b true, .n 0, .c (z2k v9)] (pA k16 (pA (rfl : inA 1 (0 : Int) = some 0) (pA (z33 (X := X) k17) pT))) (by kernel_rfl) ?_
   refine jn (ok X) 1 (fun (j2 : Bool) => ⟨198, 0, [(5, [xP 8 0]), (9, [xB j2])], [oB 9 [.pv (.str (ByteArray.mk #[97]))], oB 52 [.pv (.str (ByteArray.mk #[99])), .pv (.int .i64 0), .pv (.int .i64 1), .pv (.str v1), .pv (.str (ByteArray.mk #[113])), .bx 0 1], oB 54 (bs (z23 (z1p.mk 0 (ByteArray.mk #[97]) 0))), oB 57 [.pv (.str (ByteArray.mk #[99])), .bx 2 1], oB 9 [.pv (.str (ByteArray.mk #[120]))], oB 59 [.pv (.str (ByteArray.mk #[97])), .pv (.str (ByteArray.mk #[120])), .emp], oB 39 [.pv (.int .i64 7), .pv (.str (ByteArray.mk #[120])), .pv (.str (ByteArray.mk #[])), .pv (.int .i64 0), .pv (.int .i64 0), .pv (.str (ByteArray.mk #[])), .emp, .pv (.int .i64 0), .pv (.int .i64 0), .pv (.int .i64 0), .pv (.str (ByteArray.mk #[])), .emp, .pv (.int .i64 0), .pv (.int .i64 0), .pv (.str (ByteArray.mk #[])), .emp, .emp, .emp, .emp, .pv (.int .i64 4), .pv (.str (ByteArray.mk #[99])), .pv (.str (ByteArray.mk #[97])), .pv (.int .i64 2), .pv (.int .i64 0), .pv (.str (ByteArray.mk #[120])), .emp, .pv (.int .i64 0), .pv (.int .i64 0), .pv (.int .i64 0), .pv (.str (ByteArray.mk #[])), .emp, .pv (.int .i64 0), .pv (.int .i64 0), .pv (.str (ByteArray.mk #[])), .emp, .emp, .emp, .emp, .pv (.int .i64 5), .pv (.str (ByteArray.mk #[99])), .pv (.str (ByteArray.mk #[])), .pv (.int .i64 0), .pv (.int .i64 0), .pv (.str (ByteArray.mk #[])), .emp, .pv (.int .i64 0), .pv (.int .i64 0), .pv (.int .i64 0), .pv (.str (ByteArray.mk #[])), .emp, .pv (.int .i64 0), .pv (.int .i64 0), .pv (.str (ByteArray.mk #[])), .emp, .emp, .emp, .bx 5 1], oB 26 [.pv (.str (ByteArray.mk #[112])), .bx 4 1, .bx 6 3], oB 31 [.bx 1 1, .bx 3 1, .bx 7 1]]⟩) h (fun j2 h => ?_) (fun j2 h => ?_)
   ·rcases iteE h with ⟨k18, h⟩ | ⟨k18, h⟩
    ·rcases iteE h with ⟨k19, h⟩ | ⟨k19, h⟩
     ·obtain ⟨v10, k20, h⟩ := z08 h
      rcases iteE h with ⟨k21, h⟩ | ⟨k21, h⟩
      ·obtain ⟨v11, k22, h⟩ := z08 h
       obtain rfl := retE h
       exact fin (ok X) 1 (.b true :: .b true :: .i (v9.1.length : Int) :: bT 4 (.e (z01 v10) :: bT 6 (.e (z01 v11) :: bT 5 []))) (pA k18 (pA k18 (pA (lm z01 v9.1) (pA k18 (pA k18 (pA k19 (pA k19 (pA (ixm z01 k20) (pR 4 k19 (pA k21 (pA k21 (pA (ixm z01 k22) (pR 5 k21 pT))))))))))))) (by kernel_rfl)
      ·obtain rfl := retE h
       exact fin (ok X) 1 (.b true :: .b true :: .i (v9.1.length : Int) :: bT 4 (.e (z01 v10) :: bT 4 (bF 7 []))) (pA k18 (pA k18 (pA (lm z01 v9.1) (pA k18 (pA k18 (pA k19 (pA k19 (pA (ixm z01 k20) (pR 4 k19 (pR 7 k21 pT)))))))))) (by kernel_rfl)
     ·obtain rfl := retE h
      exact fin (ok X) 1 (.b true :: .b true :: .i (v9.1.length : Int) :: .b true :: .b true :: bF 13 []) (pA k18 (pA k18 (pA (lm z01 v9.1) (pA k18 (pA k18 (pR 6 k19 (pR 7 ff pT))))))) (by kernel_rfl)
    ·obtain rfl := retE h
     exact fin (ok X) 1 (bF 17 []) (pR 4 k18 (pR 13 ff pT)) (by kernel_rfl)
   ·obtain ⟨v12, k23, h⟩ := z08 h
    obtain ⟨v13, k24, h⟩ := z08 h
    refine adv (ok X) 3 [.z (.fb 0 1 1), .z (.fb 1 1 6), .z (.fb 2 1 3), .z (.fb 3 1 2), .z (.fb 4 1 1), .z (.nb 5), .z (.fb 5 1 3), .z (.nb 6), .z (.fb 6 3 19), .z (.fb 7 1 3), .c (z1l v12), .c (z2i v13)] (pA (z1x (X := X) k23) (pA (z2q (X := X) k24) pT)) (by kernel_rfl) ?_
    obtain ⟨v14, k25, h⟩ := z08 h
    rcases iteE h with ⟨k26, h⟩ | ⟨k26, h⟩
    ·rcases iteE h with ⟨k27, h⟩ | ⟨k27, h⟩
     ·rcases iteE h with ⟨k28, h⟩ | ⟨k28, h⟩
      ·obtain rfl := retE h
       exact fin (ok X) 2 (.c (z0e v14) :: bT 13 []) (pA (z0f (X := X) k25) (pR 5 k26 (pR 3 k27 (pA k28 (pA k28 (pA k27 (pA k28 (pA k27 pT)))))))) (by kernel_rfl)
      ·obtain rfl := retE h
       exact fin (ok X) 2 (.c (z0e v14) :: bT 8 [.b false, .b false, .b true, .b false, .b true]) (pA (z0f (X := X) k25) (pR 5 k26 (pR 3 k27 (pA k28 (pA k28 (pA k27 (pA k28 (pA k27 pT)))))))) (by kernel_rfl)
     ·obtain rfl := retE h
      exact fin (ok X) 2 (.c (z0e v14) :: bT 5 (bF 5 [])) (pA (z0f (X := X) k25) (pR 5 k26 (pR 5 k27 pT))) (by kernel_rfl)
    ·obtain rfl := retE h
     exact fin (ok X) 2 (.c (z0e v14) :: bF 10 []) (pA (z0f (X := X) k25) (pR 5 k26 (pR 5 ff pT))) (by kernel_rfl)
  ·refine adv (ok X) 3 [.b false] (pA k16 pT) (by kernel_rfl) ?_
   rcases iteE h with ⟨k29, h⟩ | ⟨k29, h⟩
   ·obtain ⟨v15, k30, h⟩ := z08 h
    refine adv (ok X) 6 [.b true, .n 0, .c (z2k v15)] (pA k29 (pA (rfl : inA 1 (0 : Int) = some 0) (pA (z33 (X := X) k30) pT))) (by kernel_rfl) ?_
    refine jn (ok X) 1 (fun (j3 : Bool) => ⟨198, 0, [(5, [xP 8 0]), (9, [xB j3])], [oB 9 [.pv (.str (ByteArray.mk #[97]))], oB 52 [.pv (.str (ByteArray.mk #[99])), .pv (.int .i64 0), .pv (.int .i64 1), .pv (.str (ByteArray.mk #[112])), .pv (.str v1), .bx 0 1], oB 54 (bs (z23 (z1p.mk 0 (ByteArray.mk #[97]) 0))), oB 57 [.pv (.str (ByteArray.mk #[99])), .bx 2 1], oB 9 [.pv (.str (ByteArray.mk #[120]))], oB 59 [.pv (.str (ByteArray.mk #[97])), .pv (.str (ByteArray.mk #[120])), .emp], oB 39 [.pv (.int .i64 7), .pv (.str (ByteArray.mk #[120])), .pv (.str (ByteArray.mk #[])), .pv (.int .i64 0), .pv (.int .i64 0), .pv (.str (ByteArray.mk #[])), .emp, .pv (.int .i64 0), .pv (.int .i64 0), .pv (.int .i64 0), .pv (.str (ByteArray.mk #[])), .emp, .pv (.int .i64 0), .pv (.int .i64 0), .pv (.str (ByteArray.mk #[])), .emp, .emp, .emp, .emp, .pv (.int .i64 4), .pv (.str (ByteArray.mk #[99])), .pv (.str (ByteArray.mk #[97])), .pv (.int .i64 2), .pv (.int .i64 0), .pv (.str (ByteArray.mk #[120])), .emp, .pv (.int .i64 0), .pv (.int .i64 0), .pv (.int .i64 0), .pv (.str (ByteArray.mk #[])), .emp, .pv (.int .i64 0), .pv (.int .i64 0), .pv (.str (ByteArray.mk #[])), .emp, .emp, .emp, .emp, .pv (.int .i64 5), .pv (.str (ByteArray.mk #[99])), .pv (.str (ByteArray.mk #[])), .pv (.int .i64 0), .pv (.int .i64 0), .pv (.str (ByteArray.mk #[])), .emp, .pv (.int .i64 0), .pv (.int .i64 0), .pv (.int .i64 0), .pv (.str (ByteArray.mk #[])), .emp, .pv (.int .i64 0), .pv (.int .i64 0), .pv (.str (ByteArray.mk #[])), .emp, .emp, .emp, .bx 5 1], oB 26 [.pv (.str (ByteArray.mk #[112])), .bx 4 1, .bx 6 3], oB 31 [.bx 1 1, .bx 3 1, .bx 7 1]]⟩) h (fun j3 h => ?_) (fun j3 h => ?_)
    ·rcases iteE h with ⟨k31, h⟩ | ⟨k31, h⟩
     ·rcases iteE h with ⟨k32, h⟩ | ⟨k32, h⟩
      ·obtain ⟨v16, k33, h⟩ := z08 h
       rcases iteE h with ⟨k34, h⟩ | ⟨k34, h⟩
       ·obtain ⟨v17, k35, h⟩ := z08 h
        obtain rfl := retE h
        exact fin (ok X) 1 (.b true :: .b true :: .i (v15.1.length : Int) :: bT 4 (.e (z01 v16) :: bT 6 (.e (z01 v17) :: bT 5 []))) (pA k31 (pA k31 (pA (lm z01 v15.1) (pA k31 (pA k31 (pA k32 (pA k32 (pA (ixm z01 k33) (pR 4 k32 (pA k34 (pA k34 (pA (ixm z01 k35) (pR 5 k34 pT))))))))))))) (by kernel_rfl)
       ·obtain rfl := retE h
        exact fin (ok X) 1 (.b true :: .b true :: .i (v15.1.length : Int) :: bT 4 (.e (z01 v16) :: bT 4 (bF 7 []))) (pA k31 (pA k31 (pA (lm z01 v15.1) (pA k31 (pA k31 (pA k32 (pA k32 (pA (ixm z01 k33) (pR 4 k32 (pR 7 k34 pT)))))))))) (by kernel_rfl)
      ·obtain rfl := retE h
       exact fin (ok X) 1 (.b true :: .b true :: .i (v15.1.length : Int) :: .b true :: .b true :: bF 13 []) (pA k31 (pA k31 (pA (lm z01 v15.1) (pA k31 (pA k31 (pR 6 k32 (pR 7 ff pT))))))) (by kernel_rfl)
     ·obtain rfl := retE h
      exact fin (ok X) 1 (bF 17 []) (pR 4 k31 (pR 13 ff pT)) (by kernel_rfl)
    ·obtain ⟨v18, k36, h⟩ := z08 h
     obtain ⟨v19, k37, h⟩ := z08 h
     refine adv (ok X) 3 [.z (.fb 0 1 1), .z (.fb 1 1 6), .z (.fb 2 1 3), .z (.fb 3 1 2), .z (.fb 4 1 1), .z (.nb 5), .z (.fb 5 1 3), .z (.nb 6), .z (.fb 6 3 19), .z (.fb 7 1 3), .c (z1l v18), .c (z2i v19)] (pA (z1x (X := X) k36) (pA (z2q (X := X) k37) pT)) (by kernel_rfl) ?_
     obtain ⟨v20, k38, h⟩ := z08 h
     rcases iteE h with ⟨k39, h⟩ | ⟨k39, h⟩
     ·rcases iteE h with ⟨k40, h⟩ | ⟨k40, h⟩
      ·rcases iteE h with ⟨k41, h⟩ | ⟨k41, h⟩
       ·obtain rfl := retE h
        exact fin (ok X) 2 (.c (z0e v20) :: bT 13 []) (pA (z0f (X := X) k38) (pR 5 k39 (pR 3 k40 (pA k41 (pA k41 (pA k40 (pA k41 (pA k40 pT)))))))) (by kernel_rfl)
       ·obtain rfl := retE h
        exact fin (ok X) 2 (.c (z0e v20) :: bT 8 [.b false, .b false, .b true, .b false, .b true]) (pA (z0f (X := X) k38) (pR 5 k39 (pR 3 k40 (pA k41 (pA k41 (pA k40 (pA k41 (pA k40 pT)))))))) (by kernel_rfl)
      ·obtain rfl := retE h
       exact fin (ok X) 2 (.c (z0e v20) :: bT 5 (bF 5 [])) (pA (z0f (X := X) k38) (pR 5 k39 (pR 5 k40 pT))) (by kernel_rfl)
     ·obtain rfl := retE h
      exact fin (ok X) 2 (.c (z0e v20) :: bF 10 []) (pA (z0f (X := X) k38) (pR 5 k39 (pR 5 ff pT))) (by kernel_rfl)
   ·refine adv (ok X) 3 [.b false] (pA k29 pT) (by kernel_rfl) ?_
    rcases iteE h with ⟨k42, h⟩ | ⟨k42, h⟩
    ·obtain ⟨v21, k43, h⟩ := z08 h
     refine adv (ok X) 6 [.b true, .n 0, .n 0, .c (z2k v21)] (pA k42 (pA (rfl : inA 1 (0 : Int) = some 0) (pA (rfl : inA 1 (0 : Int) = some 0) (pA (z33 (X := X) k43) pT)))) (by kernel_rfl) ?_
     refine jn (ok X) 1 (fun (j4 : Bool) => ⟨198, 0, [(5, [xP 8 0]), (9, [xB j4])], [oB 9 [.pv (.str v1)], oB 52 [.pv (.str (ByteArray.mk #[99])), .pv (.int .i64 0), .pv (.int .i64 1), .pv (.str (ByteArray.mk #[112])), .pv (.str (ByteArray.mk #[113])), .bx 0 1], oB 54 (bs (z23 (z1p.mk 0 (ByteArray.mk #[97]) 0))), oB 57 [.pv (.str (ByteArray.mk #[99])), .bx 2 1], oB 9 [.pv (.str (ByteArray.mk #[120]))], oB 59 [.pv (.str (ByteArray.mk #[97])), .pv (.str (ByteArray.mk #[120])), .emp], oB 39 [.pv (.int .i64 7), .pv (.str (ByteArray.mk #[120])), .pv (.str (ByteArray.mk #[])), .pv (.int .i64 0), .pv (.int .i64 0), .pv (.str (ByteArray.mk #[])), .emp, .pv (.int .i64 0), .pv (.int .i64 0), .pv (.int .i64 0), .pv (.str (ByteArray.mk #[])), .emp, .pv (.int .i64 0), .pv (.int .i64 0), .pv (.str (ByteArray.mk #[])), .emp, .emp, .emp, .emp, .pv (.int .i64 4), .pv (.str (ByteArray.mk #[99])), .pv (.str (ByteArray.mk #[97])), .pv (.int .i64 2), .pv (.int .i64 0), .pv (.str (ByteArray.mk #[120])), .emp, .pv (.int .i64 0), .pv (.int .i64 0), .pv (.int .i64 0), .pv (.str (ByteArray.mk #[])), .emp, .pv (.int .i64 0), .pv (.int .i64 0), .pv (.str (ByteArray.mk #[])), .emp, .emp, .emp, .emp, .pv (.int .i64 5), .pv (.str (ByteArray.mk #[99])), .pv (.str (ByteArray.mk #[])), .pv (.int .i64 0), .pv (.int .i64 0), .pv (.str (ByteArray.mk #[])), .emp, .pv (.int .i64 0), .pv (.int .i64 0), .pv (.int .i64 0), .pv (.str (ByteArray.mk #[])), .emp, .pv (.int .i64 0), .pv (.int .i64 0), .pv (.str (ByteArray.mk #[])), .emp, .emp, .emp, .bx 5 1], oB 26 [.pv (.str (ByteArray.mk #[112])), .bx 4 1, .bx 6 3], oB 31 [.bx 1 1, .bx 3 1, .bx 7 1]]⟩) h (fun j4 h => ?_) (fun j4 h => ?_)
     ·rcases iteE h with ⟨k44, h⟩ | ⟨k44, h⟩
      ·rcases iteE h with ⟨k45, h⟩ | ⟨k45, h⟩
       ·obtain ⟨v22, k46, h⟩ := z08 h
        rcases iteE h with ⟨k47, h⟩ | ⟨k47, h⟩
        ·obtain ⟨v23, k48, h⟩ := z08 h
         obtain rfl := retE h
         exact fin (ok X) 1 (.b true :: .b true :: .i (v21.1.length : Int) :: bT 4 (.e (z01 v22) :: bT 6 (.e (z01 v23) :: bT 5 []))) (pA k44 (pA k44 (pA (lm z01 v21.1) (pA k44 (pA k44 (pA k45 (pA k45 (pA (ixm z01 k46) (pR 4 k45 (pA k47 (pA k47 (pA (ixm z01 k48) (pR 5 k47 pT))))))))))))) (by kernel_rfl)
        ·obtain rfl := retE h
         exact fin (ok X) 1 (.b true :: .b true :: .i (v21.1.length : Int) :: bT 4 (.e (z01 v22) :: bT 4 (bF 7 []))) (pA k44 (pA k44 (pA (lm z01 v21.1) (pA k44 (pA k44 (pA k45 (pA k45 (pA (ixm z01 k46) (pR 4 k45 (pR 7 k47 pT)))))))))) (by kernel_rfl)
       ·obtain rfl := retE h
        exact fin (ok X) 1 (.b true :: .b true :: .i (v21.1.length : Int) :: .b true :: .b true :: bF 13 []) (pA k44 (pA k44 (pA (lm z01 v21.1) (pA k44 (pA k44 (pR 6 k45 (pR 7 ff pT))))))) (by kernel_rfl)
      ·obtain rfl := retE h
       exact fin (ok X) 1 (bF 17 []) (pR 4 k44 (pR 13 ff pT)) (by kernel_rfl)
     ·obtain ⟨v24, k49, h⟩ := z08 h
      obtain ⟨v25, k50, h⟩ := z08 h
      refine adv (ok X) 3 [.z (.fb 0 1 1), .z (.fb 1 1 6), .z (.fb 2 1 3), .z (.fb 3 1 2), .z (.fb 4 1 1), .z (.nb 5), .z (.fb 5 1 3), .z (.nb 6), .z (.fb 6 3 19), .z (.fb 7 1 3), .c (z1l v24), .c (z2i v25)] (pA (z1x (X := X) k49) (pA (z2q (X := X) k50) pT)) (by kernel_rfl) ?_
      obtain ⟨v26, k51, h⟩ := z08 h
      rcases iteE h with ⟨k52, h⟩ | ⟨k52, h⟩
      ·rcases iteE h with ⟨k53, h⟩ | ⟨k53, h⟩
       ·rcases iteE h with ⟨k54, h⟩ | ⟨k54, h⟩
        ·obtain rfl := retE h
         exact fin (ok X) 2 (.c (z0e v26) :: bT 13 []) (pA (z0f (X := X) k51) (pR 5 k52 (pR 3 k53 (pA k54 (pA k54 (pA k53 (pA k54 (pA k53 pT)))))))) (by kernel_rfl)
        ·obtain rfl := retE h
         exact fin (ok X) 2 (.c (z0e v26) :: bT 8 [.b false, .b false, .b true, .b false, .b true]) (pA (z0f (X := X) k51) (pR 5 k52 (pR 3 k53 (pA k54 (pA k54 (pA k53 (pA k54 (pA k53 pT)))))))) (by kernel_rfl)
       ·obtain rfl := retE h
        exact fin (ok X) 2 (.c (z0e v26) :: bT 5 (bF 5 [])) (pA (z0f (X := X) k51) (pR 5 k52 (pR 5 k53 pT))) (by kernel_rfl)
      ·obtain rfl := retE h
       exact fin (ok X) 2 (.c (z0e v26) :: bF 10 []) (pA (z0f (X := X) k51) (pR 5 k52 (pR 5 ff pT))) (by kernel_rfl)
    ·refine adv (ok X) 3 [.b false] (pA k42 pT) (by kernel_rfl) ?_
     rcases iteE h with ⟨k55, h⟩ | ⟨k55, h⟩
     ·obtain ⟨v27, k56, h⟩ := z08 h
      refine adv (ok X) 6 [.b true, .n 0, .c (z2k v27)] (pA k55 (pA (rfl : inA 1 (0 : Int) = some 0) (pA (z33 (X := X) k56) pT))) (by kernel_rfl) ?_
      refine jn (ok X) 1 (fun (j5 : Bool) => ⟨198, 0, [(5, [xP 8 0]), (9, [xB j5])], [oB 9 [.pv (.str (ByteArray.mk #[97]))], oB 52 [.pv (.str (ByteArray.mk #[99])), .pv (.int .i64 0), .pv (.int .i64 1), .pv (.str (ByteArray.mk #[112])), .pv (.str (ByteArray.mk #[113])), .bx 0 1], oB 54 (bs (z23 (z1p.mk 0 (ByteArray.mk #[97]) 0))), oB 57 [.pv (.str v1), .bx 2 1], oB 9 [.pv (.str (ByteArray.mk #[120]))], oB 59 [.pv (.str (ByteArray.mk #[97])), .pv (.str (ByteArray.mk #[120])), .emp], oB 39 [.pv (.int .i64 7), .pv (.str (ByteArray.mk #[120])), .pv (.str (ByteArray.mk #[])), .pv (.int .i64 0), .pv (.int .i64 0), .pv (.str (ByteArray.mk #[])), .emp, .pv (.int .i64 0), .pv (.int .i64 0), .pv (.int .i64 0), .pv (.str (ByteArray.mk #[])), .emp, .pv (.int .i64 0), .pv (.int .i64 0), .pv (.str (ByteArray.mk #[])), .emp, .emp, .emp, .emp, .pv (.int .i64 4), .pv (.str (ByteArray.mk #[99])), .pv (.str (ByteArray.mk #[97])), .pv (.int .i64 2), .pv (.int .i64 0), .pv (.str (ByteArray.mk #[120])), .emp, .pv (.int .i64 0), .pv (.int .i64 0), .pv (.int .i64 0), .pv (.str (ByteArray.mk #[])), .emp, .pv (.int .i64 0), .pv (.int .i64 0), .pv (.str (ByteArray.mk #[])), .emp, .emp, .emp, .emp, .pv (.int .i64 5), .pv (.str (ByteArray.mk #[99])), .pv (.str (ByteArray.mk #[])), .pv (.int .i64 0), .pv (.int .i64 0), .pv (.str (ByteArray.mk #[])), .emp, .pv (.int .i64 0), .pv (.int .i64 0), .pv (.int .i64 0), .pv (.str (ByteArray.mk #[])), .emp, .pv (.int .i64 0), .pv (.int .i64 0), .pv (.str (ByteArray.mk #[])), .emp, .emp, .emp, .bx 5 1], oB 26 [.pv (.str (ByteArray.mk #[112])), .bx 4 1, .bx 6 3], oB 31 [.bx 1 1, .bx 3 1, .bx 7 1]]⟩) h (fun j5 h => ?_) (fun j5 h => ?_)
      ·rcases iteE h with ⟨k57, h⟩ | ⟨k57, h⟩
       ·rcases iteE h with ⟨k58, h⟩ | ⟨k58, h⟩
        ·obtain ⟨v28, k59, h⟩ := z08 h
         rcases iteE h with ⟨k60, h⟩ | ⟨k60, h⟩
         ·obtain ⟨v29, k61, h⟩ := z08 h
          obtain rfl := retE h
          exact fin (ok X) 1 (.b true :: .b true :: .i (v27.1.length : Int) :: bT 4 (.e (z01 v28) :: bT 6 (.e (z01 v29) :: bT 5 []))) (pA k57 (pA k57 (pA (lm z01 v27.1) (pA k57 (pA k57 (pA k58 (pA k58 (pA (ixm z01 k59) (pR 4 k58 (pA k60 (pA k60 (pA (ixm z01 k61) (pR 5 k60 pT))))))))))))) (by kernel_rfl)
         ·obtain rfl := retE h
          exact fin (ok X) 1 (.b true :: .b true :: .i (v27.1.length : Int) :: bT 4 (.e (z01 v28) :: bT 4 (bF 7 []))) (pA k57 (pA k57 (pA (lm z01 v27.1) (pA k57 (pA k57 (pA k58 (pA k58 (pA (ixm z01 k59) (pR 4 k58 (pR 7 k60 pT)))))))))) (by kernel_rfl)
        ·obtain rfl := retE h
         exact fin (ok X) 1 (.b true :: .b true :: .i (v27.1.length : Int) :: .b true :: .b true :: bF 13 []) (pA k57 (pA k57 (pA (lm z01 v27.1) (pA k57 (pA k57 (pR 6 k58 (pR 7 ff pT))))))) (by kernel_rfl)
       ·obtain rfl := retE h
        exact fin (ok X) 1 (bF 17 []) (pR 4 k57 (pR 13 ff pT)) (by kernel_rfl)
      ·obtain ⟨v30, k62, h⟩ := z08 h
       obtain ⟨v31, k63, h⟩ := z08 h
       refine adv (ok X) 3 [.z (.fb 0 1 1), .z (.fb 1 1 6), .z (.fb 2 1 3), .z (.fb 3 1 2), .z (.fb 4 1 1), .z (.nb 5), .z (.fb 5 1 3), .z (.nb 6), .z (.fb 6 3 19), .z (.fb 7 1 3), .c (z1l v30), .c (z2i v31)] (pA (z1x (X := X) k62) (pA (z2q (X := X) k63) pT)) (by kernel_rfl) ?_
       obtain ⟨v32, k64, h⟩ := z08 h
       rcases iteE h with ⟨k65, h⟩ | ⟨k65, h⟩
       ·rcases iteE h with ⟨k66, h⟩ | ⟨k66, h⟩
        ·rcases iteE h with ⟨k67, h⟩ | ⟨k67, h⟩
         ·obtain rfl := retE h
          exact fin (ok X) 2 (.c (z0e v32) :: bT 13 []) (pA (z0f (X := X) k64) (pR 5 k65 (pR 3 k66 (pA k67 (pA k67 (pA k66 (pA k67 (pA k66 pT)))))))) (by kernel_rfl)
         ·obtain rfl := retE h
          exact fin (ok X) 2 (.c (z0e v32) :: bT 8 [.b false, .b false, .b true, .b false, .b true]) (pA (z0f (X := X) k64) (pR 5 k65 (pR 3 k66 (pA k67 (pA k67 (pA k66 (pA k67 (pA k66 pT)))))))) (by kernel_rfl)
        ·obtain rfl := retE h
         exact fin (ok X) 2 (.c (z0e v32) :: bT 5 (bF 5 [])) (pA (z0f (X := X) k64) (pR 5 k65 (pR 5 k66 pT))) (by kernel_rfl)
       ·obtain rfl := retE h
        exact fin (ok X) 2 (.c (z0e v32) :: bF 10 []) (pA (z0f (X := X) k64) (pR 5 k65 (pR 5 ff pT))) (by kernel_rfl)
     ·refine adv (ok X) 3 [.b false] (pA k55 pT) (by kernel_rfl) ?_
      rcases iteE h with ⟨k68, h⟩ | ⟨k68, h⟩
      ·obtain ⟨v33, k69, h⟩ := z08 h
       refine adv (ok X) 6 [.b true, .n 0, .n 0, .c (z2k v33)] (pA k68 (pA (rfl : inA 1 (0 : Int) = some 0) (pA (rfl : inA 1 (0 : Int) = some 0) (pA (z33 (X := X) k69) pT)))) (by kernel_rfl) ?_
       refine jn (ok X) 1 (fun (j6 : Bool) => ⟨198, 0, [(5, [xP 8 0]), (9, [xB j6])], [oB 9 [.pv (.str (ByteArray.mk #[97]))], oB 52 [.pv (.str (ByteArray.mk #[99])), .pv (.int .i64 0), .pv (.int .i64 1), .pv (.str (ByteArray.mk #[112])), .pv (.str (ByteArray.mk #[113])), .bx 0 1], oB 54 (bs (z23 (z1p.mk 0 v1 0))), oB 57 [.pv (.str (ByteArray.mk #[99])), .bx 2 1], oB 9 [.pv (.str (ByteArray.mk #[120]))], oB 59 [.pv (.str (ByteArray.mk #[97])), .pv (.str (ByteArray.mk #[120])), .emp], oB 39 [.pv (.int .i64 7), .pv (.str (ByteArray.mk #[120])), .pv (.str (ByteArray.mk #[])), .pv (.int .i64 0), .pv (.int .i64 0), .pv (.str (ByteArray.mk #[])), .emp, .pv (.int .i64 0), .pv (.int .i64 0), .pv (.int .i64 0), .pv (.str (ByteArray.mk #[])), .emp, .pv (.int .i64 0), .pv (.int .i64 0), .pv (.str (ByteArray.mk #[])), .emp, .emp, .emp, .emp, .pv (.int .i64 4), .pv (.str (ByteArray.mk #[99])), .pv (.str (ByteArray.mk #[97])), .pv (.int .i64 2), .pv (.int .i64 0), .pv (.str (ByteArray.mk #[120])), .emp, .pv (.int .i64 0), .pv (.int .i64 0), .pv (.int .i64 0), .pv (.str (ByteArray.mk #[])), .emp, .pv (.int .i64 0), .pv (.int .i64 0), .pv (.str (ByteArray.mk #[])), .emp, .emp, .emp, .emp, .pv (.int .i64 5), .pv (.str (ByteArray.mk #[99])), .pv (.str (ByteArray.mk #[])), .pv (.int .i64 0), .pv (.int .i64 0), .pv (.str (ByteArray.mk #[])), .emp, .pv (.int .i64 0), .pv (.int .i64 0), .pv (.int .i64 0), .pv (.str (ByteArray.mk #[])), .emp, .pv (.int .i64 0), .pv (.int .i64 0), .pv (.str (ByteArray.mk #[])), .emp, .emp, .emp, .bx 5 1], oB 26 [.pv (.str (ByteArray.mk #[112])), .bx 4 1, .bx 6 3], oB 31 [.bx 1 1, .bx 3 1, .bx 7 1]]⟩) h (fun j6 h => ?_) (fun j6 h => ?_)
       ·rcases iteE h with ⟨k70, h⟩ | ⟨k70, h⟩
        ·rcases iteE h with ⟨k71, h⟩ | ⟨k71, h⟩
         ·obtain ⟨v34, k72, h⟩ := z08 h
          rcases iteE h with ⟨k73, h⟩ | ⟨k73, h⟩
          ·obtain ⟨v35, k74, h⟩ := z08 h
           obtain rfl := retE h
           exact fin (ok X) 1 (.b true :: .b true :: .i (v33.1.length : Int) :: bT 4 (.e (z01 v34) :: bT 6 (.e (z01 v35) :: bT 5 []))) (pA k70 (pA k70 (pA (lm z01 v33.1) (pA k70 (pA k70 (pA k71 (pA k71 (pA (ixm z01 k72) (pR 4 k71 (pA k73 (pA k73 (pA (ixm z01 k74) (pR 5 k73 pT))))))))))))) (by kernel_rfl)
          ·obtain rfl := retE h
           exact fin (ok X) 1 (.b true :: .b true :: .i (v33.1.length : Int) :: bT 4 (.e (z01 v34) :: bT 4 (bF 7 []))) (pA k70 (pA k70 (pA (lm z01 v33.1) (pA k70 (pA k70 (pA k71 (pA k71 (pA (ixm z01 k72) (pR 4 k71 (pR 7 k73 pT)))))))))) (by kernel_rfl)
         ·obtain rfl := retE h
          exact fin (ok X) 1 (.b true :: .b true :: .i (v33.1.length : Int) :: .b true :: .b true :: bF 13 []) (pA k70 (pA k70 (pA (lm z01 v33.1) (pA k70 (pA k70 (pR 6 k71 (pR 7 ff pT))))))) (by kernel_rfl)
        ·obtain rfl := retE h
         exact fin (ok X) 1 (bF 17 []) (pR 4 k70 (pR 13 ff pT)) (by kernel_rfl)
       ·obtain ⟨v36, k75, h⟩ := z08 h
        obtain ⟨v37, k76, h⟩ := z08 h
        refine adv (ok X) 3 [.z (.fb 0 1 1), .z (.fb 1 1 6), .z (.fb 2 1 3), .z (.fb 3 1 2), .z (.fb 4 1 1), .z (.nb 5), .z (.fb 5 1 3), .z (.nb 6), .z (.fb 6 3 19), .z (.fb 7 1 3), .c (z1l v36), .c (z2i v37)] (pA (z1x (X := X) k75) (pA (z2q (X := X) k76) pT)) (by kernel_rfl) ?_
        obtain ⟨v38, k77, h⟩ := z08 h
        rcases iteE h with ⟨k78, h⟩ | ⟨k78, h⟩
        ·rcases iteE h with ⟨k79, h⟩ | ⟨k79, h⟩
         ·rcases iteE h with ⟨k80, h⟩ | ⟨k80, h⟩
          ·obtain rfl := retE h
           exact fin (ok X) 2 (.c (z0e v38) :: bT 13 []) (pA (z0f (X := X) k77) (pR 5 k78 (pR 3 k79 (pA k80 (pA k80 (pA k79 (pA k80 (pA k79 pT)))))))) (by kernel_rfl)
          ·obtain rfl := retE h
           exact fin (ok X) 2 (.c (z0e v38) :: bT 8 [.b false, .b false, .b true, .b false, .b true]) (pA (z0f (X := X) k77) (pR 5 k78 (pR 3 k79 (pA k80 (pA k80 (pA k79 (pA k80 (pA k79 pT)))))))) (by kernel_rfl)
         ·obtain rfl := retE h
          exact fin (ok X) 2 (.c (z0e v38) :: bT 5 (bF 5 [])) (pA (z0f (X := X) k77) (pR 5 k78 (pR 5 k79 pT))) (by kernel_rfl)
        ·obtain rfl := retE h
         exact fin (ok X) 2 (.c (z0e v38) :: bF 10 []) (pA (z0f (X := X) k77) (pR 5 k78 (pR 5 ff pT))) (by kernel_rfl)
      ·refine adv (ok X) 3 [.b false] (pA k68 pT) (by kernel_rfl) ?_
       rcases iteE h with ⟨k81, h⟩ | ⟨k81, h⟩
       ·obtain ⟨v39, k82, h⟩ := z08 h
        refine adv (ok X) 6 [.b true, .n 0, .c (z2k v39)] (pA k81 (pA (rfl : inA 1 (0 : Int) = some 0) (pA (z33 (X := X) k82) pT))) (by kernel_rfl) ?_
        refine jn (ok X) 1 (fun (j7 : Bool) => ⟨198, 0, [(5, [xP 8 0]), (9, [xB j7])], [oB 9 [.pv (.str (ByteArray.mk #[97]))], oB 52 [.pv (.str (ByteArray.mk #[99])), .pv (.int .i64 0), .pv (.int .i64 1), .pv (.str (ByteArray.mk #[112])), .pv (.str (ByteArray.mk #[113])), .bx 0 1], oB 54 (bs (z23 (z1p.mk 0 (ByteArray.mk #[97]) 0))), oB 57 [.pv (.str (ByteArray.mk #[99])), .bx 2 1], oB 9 [.pv (.str (ByteArray.mk #[120]))], oB 59 [.pv (.str (ByteArray.mk #[97])), .pv (.str (ByteArray.mk #[120])), .emp], oB 39 [.pv (.int .i64 7), .pv (.str (ByteArray.mk #[120])), .pv (.str (ByteArray.mk #[])), .pv (.int .i64 0), .pv (.int .i64 0), .pv (.str (ByteArray.mk #[])), .emp, .pv (.int .i64 0), .pv (.int .i64 0), .pv (.int .i64 0), .pv (.str (ByteArray.mk #[])), .emp, .pv (.int .i64 0), .pv (.int .i64 0), .pv (.str (ByteArray.mk #[])), .emp, .emp, .emp, .emp, .pv (.int .i64 4), .pv (.str (ByteArray.mk #[99])), .pv (.str (ByteArray.mk #[97])), .pv (.int .i64 2), .pv (.int .i64 0), .pv (.str (ByteArray.mk #[120])), .emp, .pv (.int .i64 0), .pv (.int .i64 0), .pv (.int .i64 0), .pv (.str (ByteArray.mk #[])), .emp, .pv (.int .i64 0), .pv (.int .i64 0), .pv (.str (ByteArray.mk #[])), .emp, .emp, .emp, .emp, .pv (.int .i64 5), .pv (.str (ByteArray.mk #[99])), .pv (.str (ByteArray.mk #[])), .pv (.int .i64 0), .pv (.int .i64 0), .pv (.str (ByteArray.mk #[])), .emp, .pv (.int .i64 0), .pv (.int .i64 0), .pv (.int .i64 0), .pv (.str (ByteArray.mk #[])), .emp, .pv (.int .i64 0), .pv (.int .i64 0), .pv (.str (ByteArray.mk #[])), .emp, .emp, .emp, .bx 5 1], oB 26 [.pv (.str v1), .bx 4 1, .bx 6 3], oB 31 [.bx 1 1, .bx 3 1, .bx 7 1]]⟩) h (fun j7 h => ?_) (fun j7 h => ?_)
        ·rcases iteE h with ⟨k83, h⟩ | ⟨k83, h⟩
         ·rcases iteE h with ⟨k84, h⟩ | ⟨k84, h⟩
          ·obtain ⟨v40, k85, h⟩ := z08 h
           rcases iteE h with ⟨k86, h⟩ | ⟨k86, h⟩
           ·obtain ⟨v41, k87, h⟩ := z08 h
            obtain rfl := retE h
            exact fin (ok X) 1 (.b true :: .b true :: .i (v39.1.length : Int) :: bT 4 (.e (z01 v40) :: bT 6 (.e (z01 v41) :: bT 5 []))) (pA k83 (pA k83 (pA (lm z01 v39.1) (pA k83 (pA k83 (pA k84 (pA k84 (pA (ixm z01 k85) (pR 4 k84 (pA k86 (pA k86 (pA (ixm z01 k87) (pR 5 k86 pT))))))))))))) (by kernel_rfl)
           ·obtain rfl := retE h
            exact fin (ok X) 1 (.b true :: .b true :: .i (v39.1.length : Int) :: bT 4 (.e (z01 v40) :: bT 4 (bF 7 []))) (pA k83 (pA k83 (pA (lm z01 v39.1) (pA k83 (pA k83 (pA k84 (pA k84 (pA (ixm z01 k85) (pR 4 k84 (pR 7 k86 pT)))))))))) (by kernel_rfl)
          ·obtain rfl := retE h
           exact fin (ok X) 1 (.b true :: .b true :: .i (v39.1.length : Int) :: .b true :: .b true :: bF 13 []) (pA k83 (pA k83 (pA (lm z01 v39.1) (pA k83 (pA k83 (pR 6 k84 (pR 7 ff pT))))))) (by kernel_rfl)
         ·obtain rfl := retE h
          exact fin (ok X) 1 (bF 17 []) (pR 4 k83 (pR 13 ff pT)) (by kernel_rfl)
        ·obtain ⟨v42, k88, h⟩ := z08 h
         obtain ⟨v43, k89, h⟩ := z08 h
         refine adv (ok X) 3 [.z (.fb 0 1 1), .z (.fb 1 1 6), .z (.fb 2 1 3), .z (.fb 3 1 2), .z (.fb 4 1 1), .z (.nb 5), .z (.fb 5 1 3), .z (.nb 6), .z (.fb 6 3 19), .z (.fb 7 1 3), .c (z1l v42), .c (z2i v43)] (pA (z1x (X := X) k88) (pA (z2q (X := X) k89) pT)) (by kernel_rfl) ?_
         obtain ⟨v44, k90, h⟩ := z08 h
         rcases iteE h with ⟨k91, h⟩ | ⟨k91, h⟩
         ·rcases iteE h with ⟨k92, h⟩ | ⟨k92, h⟩
          ·rcases iteE h with ⟨k93, h⟩ | ⟨k93, h⟩
           ·obtain rfl := retE h
            exact fin (ok X) 2 (.c (z0e v44) :: bT 13 []) (pA (z0f (X := X) k90) (pR 5 k91 (pR 3 k92 (pA k93 (pA k93 (pA k92 (pA k93 (pA k92 pT)))))))) (by kernel_rfl)
           ·obtain rfl := retE h
            exact fin (ok X) 2 (.c (z0e v44) :: bT 8 [.b false, .b false, .b true, .b false, .b true]) (pA (z0f (X := X) k90) (pR 5 k91 (pR 3 k92 (pA k93 (pA k93 (pA k92 (pA k93 (pA k92 pT)))))))) (by kernel_rfl)
          ·obtain rfl := retE h
           exact fin (ok X) 2 (.c (z0e v44) :: bT 5 (bF 5 [])) (pA (z0f (X := X) k90) (pR 5 k91 (pR 5 k92 pT))) (by kernel_rfl)
         ·obtain rfl := retE h
          exact fin (ok X) 2 (.c (z0e v44) :: bF 10 []) (pA (z0f (X := X) k90) (pR 5 k91 (pR 5 ff pT))) (by kernel_rfl)
       ·refine adv (ok X) 3 [.b false] (pA k81 pT) (by kernel_rfl) ?_
        rcases iteE h with ⟨k94, h⟩ | ⟨k94, h⟩
        ·obtain ⟨v45, k95, h⟩ := z08 h
         refine adv (ok X) 6 [.b true, .n 0, .n 0, .c (z2k v45)] (pA k94 (pA (rfl : inA 1 (0 : Int) = some 0) (pA (rfl : inA 1 (0 : Int) = some 0) (pA (z33 (X := X) k95) pT)))) (by kernel_rfl) ?_
         refine jn (ok X) 1 (fun (j8 : Bool) => ⟨198, 0, [(5, [xP 8 0]), (9, [xB j8])], [oB 9 [.pv (.str (ByteArray.mk #[97]))], oB 52 [.pv (.str (ByteArray.mk #[99])), .pv (.int .i64 0), .pv (.int .i64 1), .pv (.str (ByteArray.mk #[112])), .pv (.str (ByteArray.mk #[113])), .bx 0 1], oB 54 (bs (z23 (z1p.mk 0 (ByteArray.mk #[97]) 0))), oB 57 [.pv (.str (ByteArray.mk #[99])), .bx 2 1], oB 9 [.pv (.str v1)], oB 59 [.pv (.str (ByteArray.mk #[97])), .pv (.str (ByteArray.mk #[120])), .emp], oB 39 [.pv (.int .i64 7), .pv (.str (ByteArray.mk #[120])), .pv (.str (ByteArray.mk #[])), .pv (.int .i64 0), .pv (.int .i64 0), .pv (.str (ByteArray.mk #[])), .emp, .pv (.int .i64 0), .pv (.int .i64 0), .pv (.int .i64 0), .pv (.str (ByteArray.mk #[])), .emp, .pv (.int .i64 0), .pv (.int .i64 0), .pv (.str (ByteArray.mk #[])), .emp, .emp, .emp, .emp, .pv (.int .i64 4), .pv (.str (ByteArray.mk #[99])), .pv (.str (ByteArray.mk #[97])), .pv (.int .i64 2), .pv (.int .i64 0), .pv (.str (ByteArray.mk #[120])), .emp, .pv (.int .i64 0), .pv (.int .i64 0), .pv (.int .i64 0), .pv (.str (ByteArray.mk #[])), .emp, .pv (.int .i64 0), .pv (.int .i64 0), .pv (.str (ByteArray.mk #[])), .emp, .emp, .emp, .emp, .pv (.int .i64 5), .pv (.str (ByteArray.mk #[99])), .pv (.str (ByteArray.mk #[])), .pv (.int .i64 0), .pv (.int .i64 0), .pv (.str (ByteArray.mk #[])), .emp, .pv (.int .i64 0), .pv (.int .i64 0), .pv (.int .i64 0), .pv (.str (ByteArray.mk #[])), .emp, .pv (.int .i64 0), .pv (.int .i64 0), .pv (.str (ByteArray.mk #[])), .emp, .emp, .emp, .bx 5 1], oB 26 [.pv (.str (ByteArray.mk #[112])), .bx 4 1, .bx 6 3], oB 31 [.bx 1 1, .bx 3 1, .bx 7 1]]⟩) h (fun j8 h => ?_) (fun j8 h => ?_)
         ·rcases iteE h with ⟨k96, h⟩ | ⟨k96, h⟩
          ·rcases iteE h with ⟨k97, h⟩ | ⟨k97, h⟩
           ·obtain ⟨v46, k98, h⟩ := z08 h
            rcases iteE h with ⟨k99, h⟩ | ⟨k99, h⟩
            ·obtain ⟨v47, k100, h⟩ := z08 h
             obtain rfl := retE h
             exact fin (ok X) 1 (.b true :: .b true :: .i (v45.1.length : Int) :: bT 4 (.e (z01 v46) :: bT 6 (.e (z01 v47) :: bT 5 []))) (pA k96 (pA k96 (pA (lm z01 v45.1) (pA k96 (pA k96 (pA k97 (pA k97 (pA (ixm z01 k98) (pR 4 k97 (pA k99 (pA k99 (pA (ixm z01 k100) (pR 5 k99 pT))))))))))))) (by kernel_rfl)
            ·obtain rfl := retE h
             exact fin (ok X) 1 (.b true :: .b true :: .i (v45.1.length : Int) :: bT 4 (.e (z01 v46) :: bT 4 (bF 7 []))) (pA k96 (pA k96 (pA (lm z01 v45.1) (pA k96 (pA k96 (pA k97 (pA k97 (pA (ixm z01 k98) (pR 4 k97 (pR 7 k99 pT)))))))))) (by kernel_rfl)
           ·obtain rfl := retE h
            exact fin (ok X) 1 (.b true :: .b true :: .i (v45.1.length : Int) :: .b true :: .b true :: bF 13 []) (pA k96 (pA k96 (pA (lm z01 v45.1) (pA k96 (pA k96 (pR 6 k97 (pR 7 ff pT))))))) (by kernel_rfl)
          ·obtain rfl := retE h
           exact fin (ok X) 1 (bF 17 []) (pR 4 k96 (pR 13 ff pT)) (by kernel_rfl)
         ·obtain ⟨v48, k101, h⟩ := z08 h
          obtain ⟨v49, k102, h⟩ := z08 h
          refine adv (ok X) 3 [.z (.fb 0 1 1), .z (.fb 1 1 6), .z (.fb 2 1 3), .z (.fb 3 1 2), .z (.fb 4 1 1), .z (.nb 5), .z (.fb 5 1 3), .z (.nb 6), .z (.fb 6 3 19), .z (.fb 7 1 3), .c (z1l v48), .c (z2i v49)] (pA (z1x (X := X) k101) (pA (z2q (X := X) k102) pT)) (by kernel_rfl) ?_
          obtain ⟨v50, k103, h⟩ := z08 h
          rcases iteE h with ⟨k104, h⟩ | ⟨k104, h⟩
          ·rcases iteE h with ⟨k105, h⟩ | ⟨k105, h⟩
           ·rcases iteE h with ⟨k106, h⟩ | ⟨k106, h⟩
            ·obtain rfl := retE h
             exact fin (ok X) 2 (.c (z0e v50) :: bT 13 []) (pA (z0f (X := X) k103) (pR 5 k104 (pR 3 k105 (pA k106 (pA k106 (pA k105 (pA k106 (pA k105 pT)))))))) (by kernel_rfl)
            ·obtain rfl := retE h
             exact fin (ok X) 2 (.c (z0e v50) :: bT 8 [.b false, .b false, .b true, .b false, .b true]) (pA (z0f (X := X) k103) (pR 5 k104 (pR 3 k105 (pA k106 (pA k106 (pA k105 (pA k106 (pA k105 pT)))))))) (by kernel_rfl)
           ·obtain rfl := retE h
            exact fin (ok X) 2 (.c (z0e v50) :: bT 5 (bF 5 [])) (pA (z0f (X := X) k103) (pR 5 k104 (pR 5 k105 pT))) (by kernel_rfl)
          ·obtain rfl := retE h
           exact fin (ok X) 2 (.c (z0e v50) :: bF 10 []) (pA (z0f (X := X) k103) (pR 5 k104 (pR 5 ff pT))) (by kernel_rfl)
        ·refine adv (ok X) 3 [.b false] (pA k94 pT) (by kernel_rfl) ?_
         rcases iteE h with ⟨k107, h⟩ | ⟨k107, h⟩
         ·obtain ⟨v51, k108, h⟩ := z08 h
          refine adv (ok X) 6 [.b true, .n 0, .n 0, .c (z2k v51)] (pA k107 (pA (rfl : inA 1 (0 : Int) = some 0) (pA (rfl : inA 3 (0 : Int) = some 0) (pA (z33 (X := X) k108) pT)))) (by kernel_rfl) ?_
          refine jn (ok X) 1 (fun (j9 : Bool) => ⟨198, 0, [(5, [xP 8 0]), (9, [xB j9])], [oB 9 [.pv (.str (ByteArray.mk #[97]))], oB 52 [.pv (.str (ByteArray.mk #[99])), .pv (.int .i64 0), .pv (.int .i64 1), .pv (.str (ByteArray.mk #[112])), .pv (.str (ByteArray.mk #[113])), .bx 0 1], oB 54 (bs (z23 (z1p.mk 0 (ByteArray.mk #[97]) 0))), oB 57 [.pv (.str (ByteArray.mk #[99])), .bx 2 1], oB 9 [.pv (.str (ByteArray.mk #[120]))], oB 59 [.pv (.str (ByteArray.mk #[97])), .pv (.str (ByteArray.mk #[120])), .emp], oB 39 [.pv (.int .i64 7), .pv (.str v1), .pv (.str (ByteArray.mk #[])), .pv (.int .i64 0), .pv (.int .i64 0), .pv (.str (ByteArray.mk #[])), .emp, .pv (.int .i64 0), .pv (.int .i64 0), .pv (.int .i64 0), .pv (.str (ByteArray.mk #[])), .emp, .pv (.int .i64 0), .pv (.int .i64 0), .pv (.str (ByteArray.mk #[])), .emp, .emp, .emp, .emp, .pv (.int .i64 4), .pv (.str (ByteArray.mk #[99])), .pv (.str (ByteArray.mk #[97])), .pv (.int .i64 2), .pv (.int .i64 0), .pv (.str (ByteArray.mk #[120])), .emp, .pv (.int .i64 0), .pv (.int .i64 0), .pv (.int .i64 0), .pv (.str (ByteArray.mk #[])), .emp, .pv (.int .i64 0), .pv (.int .i64 0), .pv (.str (ByteArray.mk #[])), .emp, .emp, .emp, .emp, .pv (.int .i64 5), .pv (.str (ByteArray.mk #[99])), .pv (.str (ByteArray.mk #[])), .pv (.int .i64 0), .pv (.int .i64 0), .pv (.str (ByteArray.mk #[])), .emp, .pv (.int .i64 0), .pv (.int .i64 0), .pv (.int .i64 0), .pv (.str (ByteArray.mk #[])), .emp, .pv (.int .i64 0), .pv (.int .i64 0), .pv (.str (ByteArray.mk #[])), .emp, .emp, .emp, .bx 5 1], oB 26 [.pv (.str (ByteArray.mk #[112])), .bx 4 1, .bx 6 3], oB 31 [.bx 1 1, .bx 3 1, .bx 7 1]]⟩) h (fun j9 h => ?_) (fun j9 h => ?_)
          ·rcases iteE h with ⟨k109, h⟩ | ⟨k109, h⟩
           ·rcases iteE h with ⟨k110, h⟩ | ⟨k110, h⟩
            ·obtain ⟨v52, k111, h⟩ := z08 h
             rcases iteE h with ⟨k112, h⟩ | ⟨k112, h⟩
             ·obtain ⟨v53, k113, h⟩ := z08 h
              obtain rfl := retE h
              exact fin (ok X) 1 (.b true :: .b true :: .i (v51.1.length : Int) :: bT 4 (.e (z01 v52) :: bT 6 (.e (z01 v53) :: bT 5 []))) (pA k109 (pA k109 (pA (lm z01 v51.1) (pA k109 (pA k109 (pA k110 (pA k110 (pA (ixm z01 k111) (pR 4 k110 (pA k112 (pA k112 (pA (ixm z01 k113) (pR 5 k112 pT))))))))))))) (by kernel_rfl)
             ·obtain rfl := retE h
              exact fin (ok X) 1 (.b true :: .b true :: .i (v51.1.length : Int) :: bT 4 (.e (z01 v52) :: bT 4 (bF 7 []))) (pA k109 (pA k109 (pA (lm z01 v51.1) (pA k109 (pA k109 (pA k110 (pA k110 (pA (ixm z01 k111) (pR 4 k110 (pR 7 k112 pT)))))))))) (by kernel_rfl)
            ·obtain rfl := retE h
             exact fin (ok X) 1 (.b true :: .b true :: .i (v51.1.length : Int) :: .b true :: .b true :: bF 13 []) (pA k109 (pA k109 (pA (lm z01 v51.1) (pA k109 (pA k109 (pR 6 k110 (pR 7 ff pT))))))) (by kernel_rfl)
           ·obtain rfl := retE h
            exact fin (ok X) 1 (bF 17 []) (pR 4 k109 (pR 13 ff pT)) (by kernel_rfl)
          ·obtain ⟨v54, k114, h⟩ := z08 h
           obtain ⟨v55, k115, h⟩ := z08 h
           refine adv (ok X) 3 [.z (.fb 0 1 1), .z (.fb 1 1 6), .z (.fb 2 1 3), .z (.fb 3 1 2), .z (.fb 4 1 1), .z (.nb 5), .z (.fb 5 1 3), .z (.nb 6), .z (.fb 6 3 19), .z (.fb 7 1 3), .c (z1l v54), .c (z2i v55)] (pA (z1x (X := X) k114) (pA (z2q (X := X) k115) pT)) (by kernel_rfl) ?_
           obtain ⟨v56, k116, h⟩ := z08 h
           rcases iteE h with ⟨k117, h⟩ | ⟨k117, h⟩
           ·rcases iteE h with ⟨k118, h⟩ | ⟨k118, h⟩
            ·rcases iteE h with ⟨k119, h⟩ | ⟨k119, h⟩
             ·obtain rfl := retE h
              exact fin (ok X) 2 (.c (z0e v56) :: bT 13 []) (pA (z0f (X := X) k116) (pR 5 k117 (pR 3 k118 (pA k119 (pA k119 (pA k118 (pA k119 (pA k118 pT)))))))) (by kernel_rfl)
             ·obtain rfl := retE h
              exact fin (ok X) 2 (.c (z0e v56) :: bT 8 [.b false, .b false, .b true, .b false, .b true]) (pA (z0f (X := X) k116) (pR 5 k117 (pR 3 k118 (pA k119 (pA k119 (pA k118 (pA k119 (pA k118 pT)))))))) (by kernel_rfl)
            ·obtain rfl := retE h
             exact fin (ok X) 2 (.c (z0e v56) :: bT 5 (bF 5 [])) (pA (z0f (X := X) k116) (pR 5 k117 (pR 5 k118 pT))) (by kernel_rfl)
           ·obtain rfl := retE h
            exact fin (ok X) 2 (.c (z0e v56) :: bF 10 []) (pA (z0f (X := X) k116) (pR 5 k117 (pR 5 ff pT))) (by kernel_rfl)
         ·refine adv (ok X) 3 [.b false] (pA k107 pT) (by kernel_rfl) ?_
          rcases iteE h with ⟨k120, h⟩ | ⟨k120, h⟩
          ·obtain ⟨v57, k121, h⟩ := z08 h
           refine adv (ok X) 6 [.b true, .n 0, .n 1, .c (z2k v57)] (pA k120 (pA (rfl : inA 1 (0 : Int) = some 0) (pA (rfl : inA 3 (1 : Int) = some 1) (pA (z33 (X := X) k121) pT)))) (by kernel_rfl) ?_
           refine jn (ok X) 1 (fun (j10 : Bool) => ⟨198, 0, [(5, [xP 8 0]), (9, [xB j10])], [oB 9 [.pv (.str (ByteArray.mk #[97]))], oB 52 [.pv (.str (ByteArray.mk #[99])), .pv (.int .i64 0), .pv (.int .i64 1), .pv (.str (ByteArray.mk #[112])), .pv (.str (ByteArray.mk #[113])), .bx 0 1], oB 54 (bs (z23 (z1p.mk 0 (ByteArray.mk #[97]) 0))), oB 57 [.pv (.str (ByteArray.mk #[99])), .bx 2 1], oB 9 [.pv (.str (ByteArray.mk #[120]))], oB 59 [.pv (.str (ByteArray.mk #[97])), .pv (.str (ByteArray.mk #[120])), .emp], oB 39 [.pv (.int .i64 7), .pv (.str (ByteArray.mk #[120])), .pv (.str (ByteArray.mk #[])), .pv (.int .i64 0), .pv (.int .i64 0), .pv (.str (ByteArray.mk #[])), .emp, .pv (.int .i64 0), .pv (.int .i64 0), .pv (.int .i64 0), .pv (.str (ByteArray.mk #[])), .emp, .pv (.int .i64 0), .pv (.int .i64 0), .pv (.str (ByteArray.mk #[])), .emp, .emp, .emp, .emp, .pv (.int .i64 4), .pv (.str (ByteArray.mk #[99])), .pv (.str (ByteArray.mk #[97])), .pv (.int .i64 2), .pv (.int .i64 0), .pv (.str v1), .emp, .pv (.int .i64 0), .pv (.int .i64 0), .pv (.int .i64 0), .pv (.str (ByteArray.mk #[])), .emp, .pv (.int .i64 0), .pv (.int .i64 0), .pv (.str (ByteArray.mk #[])), .emp, .emp, .emp, .emp, .pv (.int .i64 5), .pv (.str (ByteArray.mk #[99])), .pv (.str (ByteArray.mk #[])), .pv (.int .i64 0), .pv (.int .i64 0), .pv (.str (ByteArray.mk #[])), .emp, .pv (.int .i64 0), .pv (.int .i64 0), .pv (.int .i64 0), .pv (.str (ByteArray.mk #[])), .emp, .pv (.int .i64 0), .pv (.int .i64 0), .pv (.str (ByteArray.mk #[])), .emp, .emp, .emp, .bx 5 1], oB 26 [.pv (.str (ByteArray.mk #[112])), .bx 4 1, .bx 6 3], oB 31 [.bx 1 1, .bx 3 1, .bx 7 1]]⟩) h (fun j10 h => ?_) (fun j10 h => ?_)
           ·rcases iteE h with ⟨k122, h⟩ | ⟨k122, h⟩
            ·rcases iteE h with ⟨k123, h⟩ | ⟨k123, h⟩
             ·obtain ⟨v58, k124, h⟩ := z08 h
              rcases iteE h with ⟨k125, h⟩ | ⟨k125, h⟩
              ·obtain ⟨v59, k126, h⟩ := z08 h
               obtain rfl := retE h
               exact fin (ok X) 1 (.b true :: .b true :: .i (v57.1.length : Int) :: bT 4 (.e (z01 v58) :: bT 6 (.e (z01 v59) :: bT 5 []))) (pA k122 (pA k122 (pA (lm z01 v57.1) (pA k122 (pA k122 (pA k123 (pA k123 (pA (ixm z01 k124) (pR 4 k123 (pA k125 (pA k125 (pA (ixm z01 k126) (pR 5 k125 pT))))))))))))) (by kernel_rfl)
              ·obtain rfl := retE h
               exact fin (ok X) 1 (.b true :: .b true :: .i (v57.1.length : Int) :: bT 4 (.e (z01 v58) :: bT 4 (bF 7 []))) (pA k122 (pA k122 (pA (lm z01 v57.1) (pA k122 (pA k122 (pA k123 (pA k123 (pA (ixm z01 k124) (pR 4 k123 (pR 7 k125 pT)))))))))) (by kernel_rfl)
             ·obtain rfl := retE h
              exact fin (ok X) 1 (.b true :: .b true :: .i (v57.1.length : Int) :: .b true :: .b true :: bF 13 []) (pA k122 (pA k122 (pA (lm z01 v57.1) (pA k122 (pA k122 (pR 6 k123 (pR 7 ff pT))))))) (by kernel_rfl)
            ·obtain rfl := retE h
             exact fin (ok X) 1 (bF 17 []) (pR 4 k122 (pR 13 ff pT)) (by kernel_rfl)
           ·obtain ⟨v60, k127, h⟩ := z08 h
            obtain ⟨v61, k128, h⟩ := z08 h
            refine adv (ok X) 3 [.z (.fb 0 1 1), .z (.fb 1 1 6), .z (.fb 2 1 3), .z (.fb 3 1 2), .z (.fb 4 1 1), .z (.nb 5), .z (.fb 5 1 3), .z (.nb 6), .z (.fb 6 3 19), .z (.fb 7 1 3), .c (z1l v60), .c (z2i v61)] (pA (z1x (X := X) k127) (pA (z2q (X := X) k128) pT)) (by kernel_rfl) ?_
            obtain ⟨v62, k129, h⟩ := z08 h
            rcases iteE h with ⟨k130, h⟩ | ⟨k130, h⟩
            ·rcases iteE h with ⟨k131, h⟩ | ⟨k131, h⟩
             ·rcases iteE h with ⟨k132, h⟩ | ⟨k132, h⟩
              ·obtain rfl := retE h
               exact fin (ok X) 2 (.c (z0e v62) :: bT 13 []) (pA (z0f (X := X) k129) (pR 5 k130 (pR 3 k131 (pA k132 (pA k132 (pA k131 (pA k132 (pA k131 pT)))))))) (by kernel_rfl)
              ·obtain rfl := retE h
               exact fin (ok X) 2 (.c (z0e v62) :: bT 8 [.b false, .b false, .b true, .b false, .b true]) (pA (z0f (X := X) k129) (pR 5 k130 (pR 3 k131 (pA k132 (pA k132 (pA k131 (pA k132 (pA k131 pT)))))))) (by kernel_rfl)
             ·obtain rfl := retE h
              exact fin (ok X) 2 (.c (z0e v62) :: bT 5 (bF 5 [])) (pA (z0f (X := X) k129) (pR 5 k130 (pR 5 k131 pT))) (by kernel_rfl)
            ·obtain rfl := retE h
             exact fin (ok X) 2 (.c (z0e v62) :: bF 10 []) (pA (z0f (X := X) k129) (pR 5 k130 (pR 5 ff pT))) (by kernel_rfl)
          ·refine adv (ok X) 3 [.b false] (pA k120 pT) (by kernel_rfl) ?_
           rcases iteE h with ⟨k133, h⟩ | ⟨k133, h⟩
           ·obtain ⟨v63, k134, h⟩ := z08 h
            refine adv (ok X) 6 [.b true, .n 0, .n 2, .n 0, .c (z2k v63)] (pA k133 (pA (rfl : inA 1 (0 : Int) = some 0) (pA (rfl : inA 3 (2 : Int) = some 2) (pA (rfl : inA 1 (0 : Int) = some 0) (pA (z33 (X := X) k134) pT))))) (by kernel_rfl) ?_
            refine jn (ok X) 1 (fun (j11 : Bool) => ⟨198, 0, [(5, [xP 8 0]), (9, [xB j11])], [oB 9 [.pv (.str (ByteArray.mk #[97]))], oB 52 [.pv (.str (ByteArray.mk #[99])), .pv (.int .i64 0), .pv (.int .i64 1), .pv (.str (ByteArray.mk #[112])), .pv (.str (ByteArray.mk #[113])), .bx 0 1], oB 54 (bs (z23 (z1p.mk 0 (ByteArray.mk #[97]) 0))), oB 57 [.pv (.str (ByteArray.mk #[99])), .bx 2 1], oB 9 [.pv (.str (ByteArray.mk #[120]))], oB 59 [.pv (.str v1), .pv (.str (ByteArray.mk #[120])), .emp], oB 39 [.pv (.int .i64 7), .pv (.str (ByteArray.mk #[120])), .pv (.str (ByteArray.mk #[])), .pv (.int .i64 0), .pv (.int .i64 0), .pv (.str (ByteArray.mk #[])), .emp, .pv (.int .i64 0), .pv (.int .i64 0), .pv (.int .i64 0), .pv (.str (ByteArray.mk #[])), .emp, .pv (.int .i64 0), .pv (.int .i64 0), .pv (.str (ByteArray.mk #[])), .emp, .emp, .emp, .emp, .pv (.int .i64 4), .pv (.str (ByteArray.mk #[99])), .pv (.str (ByteArray.mk #[97])), .pv (.int .i64 2), .pv (.int .i64 0), .pv (.str (ByteArray.mk #[120])), .emp, .pv (.int .i64 0), .pv (.int .i64 0), .pv (.int .i64 0), .pv (.str (ByteArray.mk #[])), .emp, .pv (.int .i64 0), .pv (.int .i64 0), .pv (.str (ByteArray.mk #[])), .emp, .emp, .emp, .emp, .pv (.int .i64 5), .pv (.str (ByteArray.mk #[99])), .pv (.str (ByteArray.mk #[])), .pv (.int .i64 0), .pv (.int .i64 0), .pv (.str (ByteArray.mk #[])), .emp, .pv (.int .i64 0), .pv (.int .i64 0), .pv (.int .i64 0), .pv (.str (ByteArray.mk #[])), .emp, .pv (.int .i64 0), .pv (.int .i64 0), .pv (.str (ByteArray.mk #[])), .emp, .emp, .emp, .bx 5 1], oB 26 [.pv (.str (ByteArray.mk #[112])), .bx 4 1, .bx 6 3], oB 31 [.bx 1 1, .bx 3 1, .bx 7 1]]⟩) h (fun j11 h => ?_) (fun j11 h => ?_)
            ·rcases iteE h with ⟨k135, h⟩ | ⟨k135, h⟩
             ·rcases iteE h with ⟨k136, h⟩ | ⟨k136, h⟩
              ·obtain ⟨v64, k137, h⟩ := z08 h
               rcases iteE h with ⟨k138, h⟩ | ⟨k138, h⟩
               ·obtain ⟨v65, k139, h⟩ := z08 h
                obtain rfl := retE h
                exact fin (ok X) 1 (.b true :: .b true :: .i (v63.1.length : Int) :: bT 4 (.e (z01 v64) :: bT 6 (.e (z01 v65) :: bT 5 []))) (pA k135 (pA k135 (pA (lm z01 v63.1) (pA k135 (pA k135 (pA k136 (pA k136 (pA (ixm z01 k137) (pR 4 k136 (pA k138 (pA k138 (pA (ixm z01 k139) (pR 5 k138 pT))))))))))))) (by kernel_rfl)
               ·obtain rfl := retE h
                exact fin (ok X) 1 (.b true :: .b true :: .i (v63.1.length : Int) :: bT 4 (.e (z01 v64) :: bT 4 (bF 7 []))) (pA k135 (pA k135 (pA (lm z01 v63.1) (pA k135 (pA k135 (pA k136 (pA k136 (pA (ixm z01 k137) (pR 4 k136 (pR 7 k138 pT)))))))))) (by kernel_rfl)
              ·obtain rfl := retE h
               exact fin (ok X) 1 (.b true :: .b true :: .i (v63.1.length : Int) :: .b true :: .b true :: bF 13 []) (pA k135 (pA k135 (pA (lm z01 v63.1) (pA k135 (pA k135 (pR 6 k136 (pR 7 ff pT))))))) (by kernel_rfl)
             ·obtain rfl := retE h
              exact fin (ok X) 1 (bF 17 []) (pR 4 k135 (pR 13 ff pT)) (by kernel_rfl)
            ·obtain ⟨v66, k140, h⟩ := z08 h
             obtain ⟨v67, k141, h⟩ := z08 h
             refine adv (ok X) 3 [.z (.fb 0 1 1), .z (.fb 1 1 6), .z (.fb 2 1 3), .z (.fb 3 1 2), .z (.fb 4 1 1), .z (.nb 5), .z (.fb 5 1 3), .z (.nb 6), .z (.fb 6 3 19), .z (.fb 7 1 3), .c (z1l v66), .c (z2i v67)] (pA (z1x (X := X) k140) (pA (z2q (X := X) k141) pT)) (by kernel_rfl) ?_
             obtain ⟨v68, k142, h⟩ := z08 h
             rcases iteE h with ⟨k143, h⟩ | ⟨k143, h⟩
             ·rcases iteE h with ⟨k144, h⟩ | ⟨k144, h⟩
              ·rcases iteE h with ⟨k145, h⟩ | ⟨k145, h⟩
               ·obtain rfl := retE h
                exact fin (ok X) 2 (.c (z0e v68) :: bT 13 []) (pA (z0f (X := X) k142) (pR 5 k143 (pR 3 k144 (pA k145 (pA k145 (pA k144 (pA k145 (pA k144 pT)))))))) (by kernel_rfl)
               ·obtain rfl := retE h
                exact fin (ok X) 2 (.c (z0e v68) :: bT 8 [.b false, .b false, .b true, .b false, .b true]) (pA (z0f (X := X) k142) (pR 5 k143 (pR 3 k144 (pA k145 (pA k145 (pA k144 (pA k145 (pA k144 pT)))))))) (by kernel_rfl)
              ·obtain rfl := retE h
               exact fin (ok X) 2 (.c (z0e v68) :: bT 5 (bF 5 [])) (pA (z0f (X := X) k142) (pR 5 k143 (pR 5 k144 pT))) (by kernel_rfl)
             ·obtain rfl := retE h
              exact fin (ok X) 2 (.c (z0e v68) :: bF 10 []) (pA (z0f (X := X) k142) (pR 5 k143 (pR 5 ff pT))) (by kernel_rfl)
           ·refine adv (ok X) 3 [.b false] (pA k133 pT) (by kernel_rfl) ?_
            rcases iteE h with ⟨k146, h⟩ | ⟨k146, h⟩
            ·obtain ⟨v69, k147, h⟩ := z08 h
             refine adv (ok X) 6 [.b true, .n 0, .n 2, .n 0, .c (z2k v69)] (pA k146 (pA (rfl : inA 1 (0 : Int) = some 0) (pA (rfl : inA 3 (2 : Int) = some 2) (pA (rfl : inA 1 (0 : Int) = some 0) (pA (z33 (X := X) k147) pT))))) (by kernel_rfl) ?_
             refine jn (ok X) 1 (fun (j12 : Bool) => ⟨198, 0, [(5, [xP 8 0]), (9, [xB j12])], [oB 9 [.pv (.str (ByteArray.mk #[97]))], oB 52 [.pv (.str (ByteArray.mk #[99])), .pv (.int .i64 0), .pv (.int .i64 1), .pv (.str (ByteArray.mk #[112])), .pv (.str (ByteArray.mk #[113])), .bx 0 1], oB 54 (bs (z23 (z1p.mk 0 (ByteArray.mk #[97]) 0))), oB 57 [.pv (.str (ByteArray.mk #[99])), .bx 2 1], oB 9 [.pv (.str (ByteArray.mk #[120]))], oB 59 [.pv (.str (ByteArray.mk #[97])), .pv (.str v1), .emp], oB 39 [.pv (.int .i64 7), .pv (.str (ByteArray.mk #[120])), .pv (.str (ByteArray.mk #[])), .pv (.int .i64 0), .pv (.int .i64 0), .pv (.str (ByteArray.mk #[])), .emp, .pv (.int .i64 0), .pv (.int .i64 0), .pv (.int .i64 0), .pv (.str (ByteArray.mk #[])), .emp, .pv (.int .i64 0), .pv (.int .i64 0), .pv (.str (ByteArray.mk #[])), .emp, .emp, .emp, .emp, .pv (.int .i64 4), .pv (.str (ByteArray.mk #[99])), .pv (.str (ByteArray.mk #[97])), .pv (.int .i64 2), .pv (.int .i64 0), .pv (.str (ByteArray.mk #[120])), .emp, .pv (.int .i64 0), .pv (.int .i64 0), .pv (.int .i64 0), .pv (.str (ByteArray.mk #[])), .emp, .pv (.int .i64 0), .pv (.int .i64 0), .pv (.str (ByteArray.mk #[])), .emp, .emp, .emp, .emp, .pv (.int .i64 5), .pv (.str (ByteArray.mk #[99])), .pv (.str (ByteArray.mk #[])), .pv (.int .i64 0), .pv (.int .i64 0), .pv (.str (ByteArray.mk #[])), .emp, .pv (.int .i64 0), .pv (.int .i64 0), .pv (.int .i64 0), .pv (.str (ByteArray.mk #[])), .emp, .pv (.int .i64 0), .pv (.int .i64 0), .pv (.str (ByteArray.mk #[])), .emp, .emp, .emp, .bx 5 1], oB 26 [.pv (.str (ByteArray.mk #[112])), .bx 4 1, .bx 6 3], oB 31 [.bx 1 1, .bx 3 1, .bx 7 1]]⟩) h (fun j12 h => ?_) (fun j12 h => ?_)
             ·rcases iteE h with ⟨k148, h⟩ | ⟨k148, h⟩
              ·rcases iteE h with ⟨k149, h⟩ | ⟨k149, h⟩
               ·obtain ⟨v70, k150, h⟩ := z08 h
                rcases iteE h with ⟨k151, h⟩ | ⟨k151, h⟩
                ·obtain ⟨v71, k152, h⟩ := z08 h
                 obtain rfl := retE h
                 exact fin (ok X) 1 (.b true :: .b true :: .i (v69.1.length : Int) :: bT 4 (.e (z01 v70) :: bT 6 (.e (z01 v71) :: bT 5 []))) (pA k148 (pA k148 (pA (lm z01 v69.1) (pA k148 (pA k148 (pA k149 (pA k149 (pA (ixm z01 k150) (pR 4 k149 (pA k151 (pA k151 (pA (ixm z01 k152) (pR 5 k151 pT))))))))))))) (by kernel_rfl)
                ·obtain rfl := retE h
                 exact fin (ok X) 1 (.b true :: .b true :: .i (v69.1.length : Int) :: bT 4 (.e (z01 v70) :: bT 4 (bF 7 []))) (pA k148 (pA k148 (pA (lm z01 v69.1) (pA k148 (pA k148 (pA k149 (pA k149 (pA (ixm z01 k150) (pR 4 k149 (pR 7 k151 pT)))))))))) (by kernel_rfl)
               ·obtain rfl := retE h
                exact fin (ok X) 1 (.b true :: .b true :: .i (v69.1.length : Int) :: .b true :: .b true :: bF 13 []) (pA k148 (pA k148 (pA (lm z01 v69.1) (pA k148 (pA k148 (pR 6 k149 (pR 7 ff pT))))))) (by kernel_rfl)
              ·obtain rfl := retE h
               exact fin (ok X) 1 (bF 17 []) (pR 4 k148 (pR 13 ff pT)) (by kernel_rfl)
             ·obtain ⟨v72, k153, h⟩ := z08 h
              obtain ⟨v73, k154, h⟩ := z08 h
              refine adv (ok X) 3 [.z (.fb 0 1 1), .z (.fb 1 1 6), .z (.fb 2 1 3), .z (.fb 3 1 2), .z (.fb 4 1 1), .z (.nb 5), .z (.fb 5 1 3), .z (.nb 6), .z (.fb 6 3 19), .z (.fb 7 1 3), .c (z1l v72), .c (z2i v73)] (pA (z1x (X := X) k153) (pA (z2q (X := X) k154) pT)) (by kernel_rfl) ?_
              obtain ⟨v74, k155, h⟩ := z08 h
              rcases iteE h with ⟨k156, h⟩ | ⟨k156, h⟩
              ·rcases iteE h with ⟨k157, h⟩ | ⟨k157, h⟩
               ·rcases iteE h with ⟨k158, h⟩ | ⟨k158, h⟩
                ·obtain rfl := retE h
                 exact fin (ok X) 2 (.c (z0e v74) :: bT 13 []) (pA (z0f (X := X) k155) (pR 5 k156 (pR 3 k157 (pA k158 (pA k158 (pA k157 (pA k158 (pA k157 pT)))))))) (by kernel_rfl)
                ·obtain rfl := retE h
                 exact fin (ok X) 2 (.c (z0e v74) :: bT 8 [.b false, .b false, .b true, .b false, .b true]) (pA (z0f (X := X) k155) (pR 5 k156 (pR 3 k157 (pA k158 (pA k158 (pA k157 (pA k158 (pA k157 pT)))))))) (by kernel_rfl)
               ·obtain rfl := retE h
                exact fin (ok X) 2 (.c (z0e v74) :: bT 5 (bF 5 [])) (pA (z0f (X := X) k155) (pR 5 k156 (pR 5 k157 pT))) (by kernel_rfl)
              ·obtain rfl := retE h
               exact fin (ok X) 2 (.c (z0e v74) :: bF 10 []) (pA (z0f (X := X) k155) (pR 5 k156 (pR 5 ff pT))) (by kernel_rfl)
            ·obtain ⟨v75, k159, h⟩ := z08 h
             refine adv (ok X) 6 [.b false, .c (z2k v75)] (pA k146 (pA (z33 (X := X) k159) pT)) (by kernel_rfl) ?_
             refine jn (ok X) 1 (fun (j13 : Bool) => ⟨198, 0, [(5, [xP 8 0]), (9, [xB j13])], [oB 9 [.pv (.str (ByteArray.mk #[97]))], oB 52 [.pv (.str (ByteArray.mk #[99])), .pv (.int .i64 0), .pv (.int .i64 1), .pv (.str (ByteArray.mk #[112])), .pv (.str (ByteArray.mk #[113])), .bx 0 1], oB 54 (bs (z23 (z1p.mk 0 (ByteArray.mk #[97]) 0))), oB 57 [.pv (.str (ByteArray.mk #[99])), .bx 2 1], oB 9 [.pv (.str (ByteArray.mk #[120]))], oB 59 [.pv (.str (ByteArray.mk #[97])), .pv (.str (ByteArray.mk #[120])), .emp], oB 39 [.pv (.int .i64 7), .pv (.str (ByteArray.mk #[120])), .pv (.str (ByteArray.mk #[])), .pv (.int .i64 0), .pv (.int .i64 0), .pv (.str (ByteArray.mk #[])), .emp, .pv (.int .i64 0), .pv (.int .i64 0), .pv (.int .i64 0), .pv (.str (ByteArray.mk #[])), .emp, .pv (.int .i64 0), .pv (.int .i64 0), .pv (.str (ByteArray.mk #[])), .emp, .emp, .emp, .emp, .pv (.int .i64 4), .pv (.str (ByteArray.mk #[99])), .pv (.str (ByteArray.mk #[97])), .pv (.int .i64 2), .pv (.int .i64 0), .pv (.str (ByteArray.mk #[120])), .emp, .pv (.int .i64 0), .pv (.int .i64 0), .pv (.int .i64 0), .pv (.str (ByteArray.mk #[])), .emp, .pv (.int .i64 0), .pv (.int .i64 0), .pv (.str (ByteArray.mk #[])), .emp, .emp, .emp, .emp, .pv (.int .i64 5), .pv (.str (ByteArray.mk #[99])), .pv (.str (ByteArray.mk #[])), .pv (.int .i64 0), .pv (.int .i64 0), .pv (.str (ByteArray.mk #[])), .emp, .pv (.int .i64 0), .pv (.int .i64 0), .pv (.int .i64 0), .pv (.str (ByteArray.mk #[])), .emp, .pv (.int .i64 0), .pv (.int .i64 0), .pv (.str (ByteArray.mk #[])), .emp, .emp, .emp, .bx 5 1], oB 26 [.pv (.str (ByteArray.mk #[112])), .bx 4 1, .bx 6 3], oB 31 [.bx 1 1, .bx 3 1, .bx 7 1]]⟩) h (fun j13 h => ?_) (fun j13 h => ?_)
             ·rcases iteE h with ⟨k160, h⟩ | ⟨k160, h⟩
              ·rcases iteE h with ⟨k161, h⟩ | ⟨k161, h⟩
               ·obtain ⟨v76, k162, h⟩ := z08 h
                rcases iteE h with ⟨k163, h⟩ | ⟨k163, h⟩
                ·obtain ⟨v77, k164, h⟩ := z08 h
                 obtain rfl := retE h
                 exact fin (ok X) 1 (.b true :: .b true :: .i (v75.1.length : Int) :: bT 4 (.e (z01 v76) :: bT 6 (.e (z01 v77) :: bT 5 []))) (pA k160 (pA k160 (pA (lm z01 v75.1) (pA k160 (pA k160 (pA k161 (pA k161 (pA (ixm z01 k162) (pR 4 k161 (pA k163 (pA k163 (pA (ixm z01 k164) (pR 5 k163 pT))))))))))))) (by kernel_rfl)
                ·obtain rfl := retE h
                 exact fin (ok X) 1 (.b true :: .b true :: .i (v75.1.length : Int) :: bT 4 (.e (z01 v76) :: bT 4 (bF 7 []))) (pA k160 (pA k160 (pA (lm z01 v75.1) (pA k160 (pA k160 (pA k161 (pA k161 (pA (ixm z01 k162) (pR 4 k161 (pR 7 k163 pT)))))))))) (by kernel_rfl)
               ·obtain rfl := retE h
                exact fin (ok X) 1 (.b true :: .b true :: .i (v75.1.length : Int) :: .b true :: .b true :: bF 13 []) (pA k160 (pA k160 (pA (lm z01 v75.1) (pA k160 (pA k160 (pR 6 k161 (pR 7 ff pT))))))) (by kernel_rfl)
              ·obtain rfl := retE h
               exact fin (ok X) 1 (bF 17 []) (pR 4 k160 (pR 13 ff pT)) (by kernel_rfl)
             ·obtain ⟨v78, k165, h⟩ := z08 h
              obtain ⟨v79, k166, h⟩ := z08 h
              refine adv (ok X) 3 [.z (.fb 0 1 1), .z (.fb 1 1 6), .z (.fb 2 1 3), .z (.fb 3 1 2), .z (.fb 4 1 1), .z (.nb 5), .z (.fb 5 1 3), .z (.nb 6), .z (.fb 6 3 19), .z (.fb 7 1 3), .c (z1l v78), .c (z2i v79)] (pA (z1x (X := X) k165) (pA (z2q (X := X) k166) pT)) (by kernel_rfl) ?_
              obtain ⟨v80, k167, h⟩ := z08 h
              rcases iteE h with ⟨k168, h⟩ | ⟨k168, h⟩
              ·rcases iteE h with ⟨k169, h⟩ | ⟨k169, h⟩
               ·rcases iteE h with ⟨k170, h⟩ | ⟨k170, h⟩
                ·obtain rfl := retE h
                 exact fin (ok X) 2 (.c (z0e v80) :: bT 13 []) (pA (z0f (X := X) k167) (pR 5 k168 (pR 3 k169 (pA k170 (pA k170 (pA k169 (pA k170 (pA k169 pT)))))))) (by kernel_rfl)
                ·obtain rfl := retE h
                 exact fin (ok X) 2 (.c (z0e v80) :: bT 8 [.b false, .b false, .b true, .b false, .b true]) (pA (z0f (X := X) k167) (pR 5 k168 (pR 3 k169 (pA k170 (pA k170 (pA k169 (pA k170 (pA k169 pT)))))))) (by kernel_rfl)
               ·obtain rfl := retE h
                exact fin (ok X) 2 (.c (z0e v80) :: bT 5 (bF 5 [])) (pA (z0f (X := X) k167) (pR 5 k168 (pR 5 k169 pT))) (by kernel_rfl)
              ·obtain rfl := retE h
               exact fin (ok X) 2 (.c (z0e v80) :: bF 10 []) (pA (z0f (X := X) k167) (pR 5 k168 (pR 5 ff pT))) (by kernel_rfl)
end Go.Proofs.YtnfjgjomokloaaaDoor.Abs

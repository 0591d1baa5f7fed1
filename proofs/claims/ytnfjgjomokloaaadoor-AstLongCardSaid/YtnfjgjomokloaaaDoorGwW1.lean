/- Gw: the functions are these. -/
import Derived.Test.YtnfjgjomokloaaaDoorGwW0
namespace Go.Proofs.YtnfjgjomokloaaaDoor.Abs
open Go Go.RowKit
set_option linter.unusedVariables false
set_option maxRecDepth 100000
set_option maxHeartbeats 4000000
variable {X : EV}
theorem z4g {r : Bool} (h : z5o = some r) : Cv Tryd.prog (GX X) 7 [] (z35 r) := by
 refine Cs.toV (?_ : Cs Tryd.prog (GX X) 7 [] [] (z35 r) (zdu r)) (by kernel_rfl)
 refine fnT (cx := cx X) Tryd.f7 Tryd.call7 Tryd.func7 (by kernel_rfl) ?_
 unfold z5o at h
 obtain ⟨v1, k1, h⟩ := z0b h
 obtain ⟨v2, k2, h⟩ := z0b h
 refine adv (ok X) 9 [.bl (List.map z18 [(z07.mk 2 0 (ByteArray.mk #[97]) []), (z07.mk 1 1 (ByteArray.mk #[]) [])]), .bl (List.map z18 [(z07.mk 4 0 (ByteArray.mk #[]) [(z07.mk 2 0 (ByteArray.mk #[97]) []), (z07.mk 1 1 (ByteArray.mk #[]) [])]), (z07.mk 1 2 (ByteArray.mk #[]) [])]), .bl (List.map z0u [(z0c.mk 1 (ByteArray.mk #[120]) (ByteArray.mk #[]) (z07.mk 6 0 (ByteArray.mk #[]) [(z07.mk 4 0 (ByteArray.mk #[]) [(z07.mk 2 0 (ByteArray.mk #[97]) []), (z07.mk 1 1 (ByteArray.mk #[]) [])]), (z07.mk 1 2 (ByteArray.mk #[]) [])]) (z1u.mk 0 (z07.mk 0 0 (ByteArray.mk #[]) []) (z07.mk 0 0 (ByteArray.mk #[]) [])) [] [] [])]), .c (z4j v1), .c (zaw v2)] (pA (blc (e := z18) (x := (z07.mk 2 0 (ByteArray.mk #[97]) [])) (z43 _).symm (blc (e := z18) (x := (z07.mk 1 1 (ByteArray.mk #[]) [])) (z43 _).symm (bl0 z18))) (pA (blc (e := z18) (x := (z07.mk 4 0 (ByteArray.mk #[]) [(z07.mk 2 0 (ByteArray.mk #[97]) []), (z07.mk 1 1 (ByteArray.mk #[]) [])])) (z43 _).symm (blc (e := z18) (x := (z07.mk 1 2 (ByteArray.mk #[]) [])) (z43 _).symm (bl0 z18))) (pA (blc (e := z0u) (x := (z0c.mk 1 (ByteArray.mk #[120]) (ByteArray.mk #[]) (z07.mk 6 0 (ByteArray.mk #[]) [(z07.mk 4 0 (ByteArray.mk #[]) [(z07.mk 2 0 (ByteArray.mk #[97]) []), (z07.mk 1 1 (ByteArray.mk #[]) [])]), (z07.mk 1 2 (ByteArray.mk #[]) [])]) (z1u.mk 0 (z07.mk 0 0 (ByteArray.mk #[]) []) (z07.mk 0 0 (ByteArray.mk #[]) [])) [] [] [])) (z2m _).symm (bl0 z0u)) (pA (z90 (X := X) k1) (pA (zgj (X := X) k2) pT))))) (by kernel_rfl) ?_
 rcases iteE h with ⟨k3, h⟩ | ⟨k3, h⟩
 ·obtain rfl := retE h
  exact fin (ok X) 2 (bT 3 []) (pR 3 k3 pT) (by kernel_rfl)
 ·obtain rfl := retE h
  exact fin (ok X) 2 (bF 3 []) (pR 3 k3 pT) (by kernel_rfl)

theorem zbh {a0 : Int} {r : Bool} (h : z60 a0 = some r) : Cv Tryd.prog (GX X) 3 [xI a0] (z61 r) := by
 refine Cs.toV (?_ : Cs Tryd.prog (GX X) 3 [xI a0] [] (z61 r) (z7s r)) (by kernel_rfl)
 refine fnT (cx := cx X) Tryd.f3 Tryd.call3 Tryd.func3 (by kernel_rfl) ?_
 unfold z60 at h
 obtain ⟨v1, k1, h⟩ := z0b h
 refine adv (ok X) 9 [.i v1, .ox] (pA k1 pT) (by kernel_rfl) ?_
 refine lp (ok X) (z2c v1) (fun (x1 : (Int × (List z0c))) => ⟨80, 0, [(3, [xI (IntKind.i64.wrap (660 + (IntKind.i64.wrap v1)))]), (4, [xP 1 0]), (5, [xI x1.1])], [oB 26 [.pv (.str (ByteArray.mk #[112])), .emp, .row 2], oB 31 [.emp, .emp, .bx 0 1], oR true 39 19 (List.map z0u x1.2)]⟩) (fun (j1 : (List z0c)) => ⟨80, 0, [(3, [xI (IntKind.i64.wrap (660 + (IntKind.i64.wrap v1)))]), (4, [xP 1 0])], [oB 26 [.pv (.str (ByteArray.mk #[112])), .emp, .row 2], oB 31 [.emp, .emp, .bx 0 1], oR true 39 19 (List.map z0u j1)]⟩) zbg (0, []) (fun _ => ⟨_, _, _, _, rfl⟩) h (by kernel_rfl) (fun x1 o h => ?_) (fun r' h => ?_) (fun j1 h => ?_)
 ·unfold z2c at h
  rcases iteE h with ⟨k2, h⟩ | ⟨k2, h⟩
  ·refine adv (ok X) 6 [.b true] (pA k2 pT) (by kernel_rfl) ?_
   refine jn (ok X) 1 (fun (j2 : (List z0c)) => ⟨80, 0, [(3, [xI (IntKind.i64.wrap (660 + (IntKind.i64.wrap v1)))]), (4, [xP 1 0]), (5, [xI x1.1])], [oB 26 [.pv (.str (ByteArray.mk #[112])), .emp, .row 2], oB 31 [.emp, .emp, .bx 0 1], oR true 39 19 (List.map z0u j2)]⟩) h (fun j2 h => ?_) (fun j2 h => ?_)
   ·refine adv (ok X) 2 [] pT (by kernel_rfl) ?_
    refine ch (ok X) (by kernel_rfl) ?_ ?_
    ·have h : (app 288 x1.2 [(z0c.mk 0 (ByteArray.mk #[]) (ByteArray.mk #[]) (z07.mk 0 0 (ByteArray.mk #[]) []) (z1u.mk 0 (z07.mk 0 0 (ByteArray.mk #[]) []) (z07.mk 0 0 (ByteArray.mk #[]) [])) [] [] [])] >>= fun v2 => idx v2 (x1.2.length : Int) >>= fun v3 => some (seti v2 (x1.2.length : Int) (z0c.mk 7 (ByteArray.mk #[120]) (ByteArray.mk #[]) (z07.mk 0 0 (ByteArray.mk #[]) []) (z1u.mk 0 (z07.mk 0 0 (ByteArray.mk #[]) []) (z07.mk 0 0 (ByteArray.mk #[]) [])) [] [] []))) = some _ := chs (k := fun v4 => some v4) h
     obtain ⟨v2, k3, h⟩ := z0b h
     obtain ⟨v3, k4, h⟩ := z0b h
     obtain rfl := retE h
     exact fin (ok X) 5 [.b true, .n 0, .i (x1.2.length : Int), .bl (List.map z0u [(z0c.mk 0 (ByteArray.mk #[]) (ByteArray.mk #[]) (z07.mk 0 0 (ByteArray.mk #[]) []) (z1u.mk 0 (z07.mk 0 0 (ByteArray.mk #[]) []) (z07.mk 0 0 (ByteArray.mk #[]) [])) [] [] [])]), .l (List.map z0u v2), .n 0, .e (z6t v3), .se (z6t v3) (List.map z0u (seti v2 (x1.2.length : Int) (z0c.mk 7 (ByteArray.mk #[120]) (ByteArray.mk #[]) (z07.mk 0 0 (ByteArray.mk #[]) []) (z1u.mk 0 (z07.mk 0 0 (ByteArray.mk #[]) []) (z07.mk 0 0 (ByteArray.mk #[]) [])) [] [] [])))] (pA tt (pA (rfl : inA 1 (0 : Int) = some 0) (pA (lm z0u x1.2) (pA (blc (e := z0u) (x := (z0c.mk 0 (ByteArray.mk #[]) (ByteArray.mk #[]) (z07.mk 0 0 (ByteArray.mk #[]) []) (z1u.mk 0 (z07.mk 0 0 (ByteArray.mk #[]) []) (z07.mk 0 0 (ByteArray.mk #[]) [])) [] [] [])) (z2m _).symm (bl0 z0u)) (pA (apm (L := x1.2) (M := [(z0c.mk 0 (ByteArray.mk #[]) (ByteArray.mk #[]) (z07.mk 0 0 (ByteArray.mk #[]) []) (z1u.mk 0 (z07.mk 0 0 (ByteArray.mk #[]) []) (z07.mk 0 0 (ByteArray.mk #[]) [])) [] [] [])]) z6y k3) (pA (rfl : inA 1 (0 : Int) = some 0) (pA (ixr z2m k4) (pA (rwr' z2m k4) (pA (ser z2m v2 (x1.2.length : Int) (z0c.mk 7 (ByteArray.mk #[120]) (ByteArray.mk #[]) (z07.mk 0 0 (ByteArray.mk #[]) []) (z1u.mk 0 (z07.mk 0 0 (ByteArray.mk #[]) []) (z07.mk 0 0 (ByteArray.mk #[]) [])) [] [] [])) pT))))))))) (by kernel_rfl)
    ·obtain ⟨v4, k5, h⟩ := z0b h
     obtain rfl := retE h
     exact fin (ok X) 3 [.b false, .o [0, 1, 2, 3, 4, 5, 6, 7, 8, 9, 10, 11, 12], .n 0, .bl (List.map z0u [(z0c.mk 7 (ByteArray.mk #[120]) (ByteArray.mk #[]) (z07.mk 0 0 (ByteArray.mk #[]) []) (z1u.mk 0 (z07.mk 0 0 (ByteArray.mk #[]) []) (z07.mk 0 0 (ByteArray.mk #[]) [])) [] [] [])]), .l (List.map z0u v4), .n 0] (pA ff (pA (rfl : inA 1 (0 : Int) = some 0) (pA (blc (e := z0u) (x := (z0c.mk 7 (ByteArray.mk #[120]) (ByteArray.mk #[]) (z07.mk 0 0 (ByteArray.mk #[]) []) (z1u.mk 0 (z07.mk 0 0 (ByteArray.mk #[]) []) (z07.mk 0 0 (ByteArray.mk #[]) [])) [] [] [])) (z2m _).symm (bl0 z0u)) (pA (apm (L := x1.2) (M := [(z0c.mk 7 (ByteArray.mk #[120]) (ByteArray.mk #[]) (z07.mk 0 0 (ByteArray.mk #[]) []) (z1u.mk 0 (z07.mk 0 0 (ByteArray.mk #[]) []) (z07.mk 0 0 (ByteArray.mk #[]) [])) [] [] [])]) z6y k5) (pA (rfl : inA 1 (0 : Int) = some 0) pT))))) (by kernel_rfl)
   ·obtain rfl := retE h
    exact fin (ok X) 1 [] pT (by kernel_rfl)
  ·obtain rfl := retE h
   exact fin (ok X) 5 [.b false] (pA k2 pT) (by kernel_rfl)
 ·cases h
 ·obtain ⟨v5, k6, h⟩ := z0b h
  obtain ⟨v6, k7, h⟩ := z0b h
  refine adv (ok X) 5 [.z (.fz 2), .z (.nb 0), .z (.fb 0 1 3), .c (z4j v5), .c (z5z v6)] (pA (z90 (X := X) k6) (pA (za6 (X := X) k7) pT)) (by kernel_rfl) ?_
  rcases iteE h with ⟨k8, h⟩ | ⟨k8, h⟩
  ·refine adv (ok X) 2 [.b true] (pA k8 pT) (by kernel_rfl) ?_
   refine jn (ok X) 1 (fun (j3 : Bool) => ⟨80, 0, [(2, [xB j3])], []⟩) h (fun j3 h => ?_) (fun j3 h => ?_)
   ·obtain ⟨v7, k9, h⟩ := z0b h
    rcases iteE h with ⟨k10, h⟩ | ⟨k10, h⟩
    ·rcases iteE h with ⟨k11, h⟩ | ⟨k11, h⟩
     ·obtain rfl := retE h
      exact fin (ok X) 1 (.c (z35 v7) :: bT 5 [.i (v6.1.length : Int), .b true, .b true]) (pA (z4g (X := X) k9) (pR 3 k10 (pA k11 (pA k11 (pA (lm z0j v6.1) (pA k11 (pA k11 pT))))))) (by kernel_rfl)
     ·obtain rfl := retE h
      exact fin (ok X) 1 (.c (z35 v7) :: bT 3 (bF 4 [])) (pA (z4g (X := X) k9) (pR 3 k10 (pR 4 k11 pT))) (by kernel_rfl)
    ·obtain rfl := retE h
     exact fin (ok X) 1 (.c (z35 v7) :: bF 7 []) (pA (z4g (X := X) k9) (pR 3 k10 (pR 4 ff pT))) (by kernel_rfl)
   ·obtain rfl := retE h
    exact fin (ok X) 1 [] pT (by kernel_rfl)
  ·refine adv (ok X) 3 [.b false] (pA k8 pT) (by kernel_rfl) ?_
   obtain ⟨v8, k12, h⟩ := z0b h
   rcases iteE h with ⟨k13, h⟩ | ⟨k13, h⟩
   ·rcases iteE h with ⟨k14, h⟩ | ⟨k14, h⟩
    ·obtain rfl := retE h
     exact fin (ok X) 2 (.c (z35 v8) :: bT 5 (.i (v6.1.length : Int) :: bT 5 [])) (pA (z4g (X := X) k12) (pR 3 k13 (pA k14 (pA k14 (pA (lm z0j v6.1) (pR 5 k14 pT)))))) (by kernel_rfl)
    ·obtain rfl := retE h
     exact fin (ok X) 2 (.c (z35 v8) :: bT 3 (bF 7 [])) (pA (z4g (X := X) k12) (pR 3 k13 (pR 7 k14 pT))) (by kernel_rfl)
   ·obtain rfl := retE h
    exact fin (ok X) 2 (.c (z35 v8) :: bF 10 []) (pA (z4g (X := X) k12) (pR 3 k13 (pR 7 ff pT))) (by kernel_rfl)
end Go.Proofs.YtnfjgjomokloaaaDoor.Abs

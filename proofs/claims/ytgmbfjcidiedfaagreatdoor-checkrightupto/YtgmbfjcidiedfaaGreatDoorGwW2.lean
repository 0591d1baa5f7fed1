/- Gw: the functions are these. -/
import Derived.Test.YtgmbfjcidiedfaaGreatDoorGwW1
namespace Go.Proofs.YtgmbfjcidiedfaaGreatDoor.Abs
open Go Go.RowKit
set_option linter.unusedVariables false
set_option maxRecDepth 100000
set_option maxHeartbeats 4000000
variable {X : EV}
theorem zkt {n : Nat} (ih_check_maker_expr : ∀ (a0 : z02) (a1 : z05) (r : (z02 × z0h)), z48 n a0 a1 = some r → Cs Tryz.prog (GX X) 94 [xP 0 0, .agg (bs (z0p a1))] [oB 85 [.pv (.sl (List.map z0e a0.f_s.Chans)), .pv (.sl (List.map z0i a0.f_s.Rules)), .pv (.sl (List.map z0g a0.f_s.Procs)), .row 1, .row 2, .row 3, .row 4, .pv (.int .i64 a0.f_proc), .pv (.sl (List.map z0a a0.f_vars)), .pv (.int .i64 a0.f_e)], oR false 46 6 (List.map z04 a0.f_p.Chans), oR false 51 2 (List.map z0b a0.f_p.Procs), oR false 9 1 (List.map z0a a0.f_chans), oR false 9 1 (List.map z0a a0.f_procs)] (z4b r) (z4c r)) (a0 : z02) (a1 : z05) (r : (z02 × z0h)) (h : z48 (n + 1) a0 a1 = some r) : Cs Tryz.prog (GX X) 94 [xP 0 0, .agg (bs (z0p a1))] [oB 85 [.pv (.sl (List.map z0e a0.f_s.Chans)), .pv (.sl (List.map z0i a0.f_s.Rules)), .pv (.sl (List.map z0g a0.f_s.Procs)), .row 1, .row 2, .row 3, .row 4, .pv (.int .i64 a0.f_proc), .pv (.sl (List.map z0a a0.f_vars)), .pv (.int .i64 a0.f_e)], oR false 46 6 (List.map z04 a0.f_p.Chans), oR false 51 2 (List.map z0b a0.f_p.Procs), oR false 9 1 (List.map z0a a0.f_chans), oR false 9 1 (List.map z0a a0.f_procs)] (z4b r) (z4c r) := by
 refine fnT (cx := cx X) Tryz.f94 Tryz.call94 Tryz.func94 (by kernel_rfl) ?_
 rw [z48] at h
 rcases iteE h with ⟨k1, h⟩ | ⟨k1, h⟩
 ·refine adv (ok X) 16 [.b true, .i (a1.Kids.length : Int)] (pA k1 (pA (lm z2s a1.Kids) pT)) (by kernel_rfl) ?_
  refine lp (ok X) (zbn (z48 n) a1) (fun (x1 : (Int × z02 × (List z0m) × (List z0w) × (List ByteArray) × (List ByteArray) × (List z0h))) => ⟨46, 5, [(0, [xP 0 0]), (4, [xP 6 0]), (5, [xP 7 0]), (30, [xL (List.map z2s a1.Kids)]), (31, [xI (a1.Kids.length : Int)]), (32, [xI x1.1])], [oB 85 [.pv (.sl (List.map z0e x1.2.1.f_s.Chans)), .pv (.sl (List.map z0i x1.2.1.f_s.Rules)), .pv (.sl (List.map z0g x1.2.1.f_s.Procs)), .row 1, .row 2, .row 3, .row 4, .pv (.int .i64 x1.2.1.f_proc), .pv (.sl (List.map z0a x1.2.1.f_vars)), .pv (.int .i64 x1.2.1.f_e)], oR false 46 6 (List.map z04 x1.2.2.1), oR false 51 2 (List.map z0b x1.2.2.2.1), oR false 9 1 (List.map z0a x1.2.2.2.2.1), oR false 9 1 (List.map z0a x1.2.2.2.2.2.1), none, oB 91 [.pv (.int .i64 0), .pv (.int .i64 0), .pv (.int .i64 0), .emp], oB 91 [.pv (.int .i64 a1.Kind), .pv (.int .i64 a1.Num), .pv (.int .i64 0), .row 8], oR true 91 4 (List.map z14 x1.2.2.2.2.2.2)]⟩) (fun (j1 : (z02 × (List z0m) × (List z0w) × (List ByteArray) × (List ByteArray) × (List z0h))) => ⟨46, 5, [(4, [xP 6 0]), (5, [xP 7 0])], [oB 85 [.pv (.sl (List.map z0e j1.1.f_s.Chans)), .pv (.sl (List.map z0i j1.1.f_s.Rules)), .pv (.sl (List.map z0g j1.1.f_s.Procs)), .row 1, .row 2, .row 3, .row 4, .pv (.int .i64 j1.1.f_proc), .pv (.sl (List.map z0a j1.1.f_vars)), .pv (.int .i64 j1.1.f_e)], oR false 46 6 (List.map z04 j1.2.1), oR false 51 2 (List.map z0b j1.2.2.1), oR false 9 1 (List.map z0a j1.2.2.2.1), oR false 9 1 (List.map z0a j1.2.2.2.2.1), none, oB 91 [.pv (.int .i64 0), .pv (.int .i64 0), .pv (.int .i64 0), .emp], oB 91 [.pv (.int .i64 a1.Kind), .pv (.int .i64 a1.Num), .pv (.int .i64 0), .row 8], oR true 91 4 (List.map z14 j1.2.2.2.2.2)]⟩) zcf (0, a0, a0.f_p.Chans, a0.f_p.Procs, a0.f_chans, a0.f_procs, []) (fun _ => ⟨_, _, _, _, rfl⟩) h (by kernel_rfl) (fun x1 o h => ?_) (fun r' h => ?_) (fun j1 h => ?_)
  ·unfold zbn at h
   rcases iteE h with ⟨k2, h⟩ | ⟨k2, h⟩
   ·obtain ⟨v1, k3, h⟩ := z07 h
    obtain ⟨v2, k4, h⟩ := z07 h
    obtain ⟨v3, k5, h⟩ := z07 h
    obtain rfl := retE h
    exact fin (ok X) 12 [.b true, .e (z0p v1), .o [0, 1, 2, 3, 4, 5, 6, 7, 8], .s (z4b v2) (z4c v2), .bl (List.map z14 [v2.2]), .l (List.map z14 v3)] (pA k2 (pA (ixr z65 k3) (pA (ih_check_maker_expr _ _ _ k4) (pA (blc (e := z14) (x := v2.2) (z90 _).symm (bl0 z14)) (pA (apm (L := x1.2.2.2.2.2.2) (M := [v2.2]) zb6 k5) pT))))) (by kernel_rfl)
   ·obtain rfl := retE h
    exact fin (ok X) 5 [.b false] (pA k2 pT) (by kernel_rfl)
  ·cases h
  ·obtain rfl := retE h
   exact fin (ok X) 3 [] pT (by kernel_rfl)
 ·refine adv (ok X) 13 [.b false] (pA k1 pT) (by kernel_rfl) ?_
  rcases iteE h with ⟨k6, h⟩ | ⟨k6, h⟩
  ·obtain ⟨v4, k7, h⟩ := z07 h
   refine adv (ok X) 6 [.b true, .o [0, 1, 2, 3, 4, 5, 6, 7, 8, 9], .s (z5r v4) (z5s v4), .i (a1.Kids.length : Int)] (pA k6 (pA (z6j (X := X) k7) (pA (lm z2s a1.Kids) pT))) (by kernel_rfl) ?_
   refine lp (ok X) (zbo (z48 n) a1) (fun (x2 : (Int × z02 × (List z0m) × (List z0w) × (List ByteArray) × (List ByteArray) × (List z0h))) => ⟨46, 5, [(0, [xP 0 0]), (4, [xP 6 0]), (5, [xP 7 0]), (30, [xL (List.map z2s a1.Kids)]), (31, [xI (a1.Kids.length : Int)]), (32, [xI x2.1])], [oB 85 [.pv (.sl (List.map z0e x2.2.1.f_s.Chans)), .pv (.sl (List.map z0i x2.2.1.f_s.Rules)), .pv (.sl (List.map z0g x2.2.1.f_s.Procs)), .row 1, .row 2, .row 3, .row 4, .pv (.int .i64 x2.2.1.f_proc), .pv (.sl (List.map z0a x2.2.1.f_vars)), .pv (.int .i64 x2.2.1.f_e)], oR false 46 6 (List.map z04 x2.2.2.1), oR false 51 2 (List.map z0b x2.2.2.2.1), oR false 9 1 (List.map z0a x2.2.2.2.2.1), oR false 9 1 (List.map z0a x2.2.2.2.2.2.1), none, oB 91 [.pv (.int .i64 0), .pv (.int .i64 0), .pv (.int .i64 0), .emp], oB 91 [.pv (.int .i64 a1.Kind), .pv (.int .i64 0), .pv (.int .i64 v4.2), .row 8], oR true 91 4 (List.map z14 x2.2.2.2.2.2.2)]⟩) (fun (j2 : (z02 × (List z0m) × (List z0w) × (List ByteArray) × (List ByteArray) × (List z0h))) => ⟨46, 5, [(4, [xP 6 0]), (5, [xP 7 0])], [oB 85 [.pv (.sl (List.map z0e j2.1.f_s.Chans)), .pv (.sl (List.map z0i j2.1.f_s.Rules)), .pv (.sl (List.map z0g j2.1.f_s.Procs)), .row 1, .row 2, .row 3, .row 4, .pv (.int .i64 j2.1.f_proc), .pv (.sl (List.map z0a j2.1.f_vars)), .pv (.int .i64 j2.1.f_e)], oR false 46 6 (List.map z04 j2.2.1), oR false 51 2 (List.map z0b j2.2.2.1), oR false 9 1 (List.map z0a j2.2.2.2.1), oR false 9 1 (List.map z0a j2.2.2.2.2.1), none, oB 91 [.pv (.int .i64 0), .pv (.int .i64 0), .pv (.int .i64 0), .emp], oB 91 [.pv (.int .i64 a1.Kind), .pv (.int .i64 0), .pv (.int .i64 v4.2), .row 8], oR true 91 4 (List.map z14 j2.2.2.2.2.2)]⟩) zcf (0, v4.1, v4.1.f_p.Chans, v4.1.f_p.Procs, v4.1.f_chans, v4.1.f_procs, []) (fun _ => ⟨_, _, _, _, rfl⟩) h (by kernel_rfl) (fun x2 o h => ?_) (fun r' h => ?_) (fun j2 h => ?_)
   ·unfold zbo at h
    rcases iteE h with ⟨k8, h⟩ | ⟨k8, h⟩
    ·obtain ⟨v5, k9, h⟩ := z07 h
     obtain ⟨v6, k10, h⟩ := z07 h
     obtain ⟨v7, k11, h⟩ := z07 h
     obtain rfl := retE h
     exact fin (ok X) 12 [.b true, .e (z0p v5), .o [0, 1, 2, 3, 4, 5, 6, 7, 8], .s (z4b v6) (z4c v6), .bl (List.map z14 [v6.2]), .l (List.map z14 v7)] (pA k8 (pA (ixr z65 k9) (pA (ih_check_maker_expr _ _ _ k10) (pA (blc (e := z14) (x := v6.2) (z90 _).symm (bl0 z14)) (pA (apm (L := x2.2.2.2.2.2.2) (M := [v6.2]) zb6 k11) pT))))) (by kernel_rfl)
    ·obtain rfl := retE h
     exact fin (ok X) 5 [.b false] (pA k8 pT) (by kernel_rfl)
   ·cases h
   ·obtain rfl := retE h
    exact fin (ok X) 3 [] pT (by kernel_rfl)
  ·refine adv (ok X) 6 [.b false, .i (a1.Kids.length : Int)] (pA k6 (pA (lm z2s a1.Kids) pT)) (by kernel_rfl) ?_
   refine lp (ok X) (zbp (z48 n) a1) (fun (x3 : (Int × z02 × (List z0m) × (List z0w) × (List ByteArray) × (List ByteArray) × (List z0h))) => ⟨46, 5, [(0, [xP 0 0]), (4, [xP 6 0]), (5, [xP 7 0]), (30, [xL (List.map z2s a1.Kids)]), (31, [xI (a1.Kids.length : Int)]), (32, [xI x3.1])], [oB 85 [.pv (.sl (List.map z0e x3.2.1.f_s.Chans)), .pv (.sl (List.map z0i x3.2.1.f_s.Rules)), .pv (.sl (List.map z0g x3.2.1.f_s.Procs)), .row 1, .row 2, .row 3, .row 4, .pv (.int .i64 x3.2.1.f_proc), .pv (.sl (List.map z0a x3.2.1.f_vars)), .pv (.int .i64 x3.2.1.f_e)], oR false 46 6 (List.map z04 x3.2.2.1), oR false 51 2 (List.map z0b x3.2.2.2.1), oR false 9 1 (List.map z0a x3.2.2.2.2.1), oR false 9 1 (List.map z0a x3.2.2.2.2.2.1), none, oB 91 [.pv (.int .i64 0), .pv (.int .i64 0), .pv (.int .i64 0), .emp], oB 91 [.pv (.int .i64 a1.Kind), .pv (.int .i64 0), .pv (.int .i64 0), .row 8], oR true 91 4 (List.map z14 x3.2.2.2.2.2.2)]⟩) (fun (j3 : (z02 × (List z0m) × (List z0w) × (List ByteArray) × (List ByteArray) × (List z0h))) => ⟨46, 5, [(4, [xP 6 0]), (5, [xP 7 0])], [oB 85 [.pv (.sl (List.map z0e j3.1.f_s.Chans)), .pv (.sl (List.map z0i j3.1.f_s.Rules)), .pv (.sl (List.map z0g j3.1.f_s.Procs)), .row 1, .row 2, .row 3, .row 4, .pv (.int .i64 j3.1.f_proc), .pv (.sl (List.map z0a j3.1.f_vars)), .pv (.int .i64 j3.1.f_e)], oR false 46 6 (List.map z04 j3.2.1), oR false 51 2 (List.map z0b j3.2.2.1), oR false 9 1 (List.map z0a j3.2.2.2.1), oR false 9 1 (List.map z0a j3.2.2.2.2.1), none, oB 91 [.pv (.int .i64 0), .pv (.int .i64 0), .pv (.int .i64 0), .emp], oB 91 [.pv (.int .i64 a1.Kind), .pv (.int .i64 0), .pv (.int .i64 0), .row 8], oR true 91 4 (List.map z14 j3.2.2.2.2.2)]⟩) zcf (0, a0, a0.f_p.Chans, a0.f_p.Procs, a0.f_chans, a0.f_procs, []) (fun _ => ⟨_, _, _, _, rfl⟩) h (by kernel_rfl) (fun x3 o h => ?_) (fun r' h => ?_) (fun j3 h => ?_)
   ·unfold zbp at h
    rcases iteE h with ⟨k12, h⟩ | ⟨k12, h⟩
    ·obtain ⟨v8, k13, h⟩ := z07 h
     obtain ⟨v9, k14, h⟩ := z07 h
     obtain ⟨v10, k15, h⟩ := z07 h
     obtain rfl := retE h
     exact fin (ok X) 12 [.b true, .e (z0p v8), .o [0, 1, 2, 3, 4, 5, 6, 7, 8], .s (z4b v9) (z4c v9), .bl (List.map z14 [v9.2]), .l (List.map z14 v10)] (pA k12 (pA (ixr z65 k13) (pA (ih_check_maker_expr _ _ _ k14) (pA (blc (e := z14) (x := v9.2) (z90 _).symm (bl0 z14)) (pA (apm (L := x3.2.2.2.2.2.2) (M := [v9.2]) zb6 k15) pT))))) (by kernel_rfl)
    ·obtain rfl := retE h
     exact fin (ok X) 5 [.b false] (pA k12 pT) (by kernel_rfl)
   ·cases h
   ·obtain rfl := retE h
    exact fin (ok X) 3 [] pT (by kernel_rfl)

theorem ze3 : ∀ n : Nat, (∀ (a0 : z02) (a1 : z05) (r : (z02 × z0h)), z48 n a0 a1 = some r → Cs Tryz.prog (GX X) 94 [xP 0 0, .agg (bs (z0p a1))] [oB 85 [.pv (.sl (List.map z0e a0.f_s.Chans)), .pv (.sl (List.map z0i a0.f_s.Rules)), .pv (.sl (List.map z0g a0.f_s.Procs)), .row 1, .row 2, .row 3, .row 4, .pv (.int .i64 a0.f_proc), .pv (.sl (List.map z0a a0.f_vars)), .pv (.int .i64 a0.f_e)], oR false 46 6 (List.map z04 a0.f_p.Chans), oR false 51 2 (List.map z0b a0.f_p.Procs), oR false 9 1 (List.map z0a a0.f_chans), oR false 9 1 (List.map z0a a0.f_procs)] (z4b r) (z4c r))
 | 0 => (fun _ _ _ h => by rw [z48] at h; cases h)
 | n + 1 => by
  have ih := ze3 n
  exact zkt ih

theorem z9x {a0 : z02} {a1 : z05} {r : (z02 × z0h)} (h : z7p a0 a1 = some r) : Cs Tryz.prog (GX X) 94 [xP 0 0, .agg (bs (z0p a1))] [oB 85 [.pv (.sl (List.map z0e a0.f_s.Chans)), .pv (.sl (List.map z0i a0.f_s.Rules)), .pv (.sl (List.map z0g a0.f_s.Procs)), .row 1, .row 2, .row 3, .row 4, .pv (.int .i64 a0.f_proc), .pv (.sl (List.map z0a a0.f_vars)), .pv (.int .i64 a0.f_e)], oR false 46 6 (List.map z04 a0.f_p.Chans), oR false 51 2 (List.map z0b a0.f_p.Procs), oR false 9 1 (List.map z0a a0.f_chans), oR false 9 1 (List.map z0a a0.f_procs)] (z4b r) (z4c r) := by
 obtain ⟨n, hn⟩ := unfE h
 exact (ze3 n) _ _ _ hn

theorem zci {a0 : z02} {a1 : z5j} {r : (z02 × z4y)} (h : z9j a0 a1 = some r) : Cs Tryz.prog (GX X) 95 [xP 0 0, .agg (bs (zi5 a1))] [oB 85 [.pv (.sl (List.map z0e a0.f_s.Chans)), .pv (.sl (List.map z0i a0.f_s.Rules)), .pv (.sl (List.map z0g a0.f_s.Procs)), .row 1, .row 2, .row 3, .row 4, .pv (.int .i64 a0.f_proc), .pv (.sl (List.map z0a a0.f_vars)), .pv (.int .i64 a0.f_e)], oR false 46 6 (List.map z04 a0.f_p.Chans), oR false 51 2 (List.map z0b a0.f_p.Procs), oR false 9 1 (List.map z0a a0.f_chans), oR false 9 1 (List.map z0a a0.f_procs)] (z9v r) (z9w r) := by
 refine fnT (cx := cx X) Tryz.f95 Tryz.call95 Tryz.func95 (by kernel_rfl) ?_
 unfold z9j at h
 obtain ⟨v1, k1, h⟩ := z07 h
 obtain ⟨v2, k2, h⟩ := z07 h
 obtain rfl := retE h
 exact fin (ok X) 7 [.s (z4b v1) (z4c v1), .o [0, 1, 2, 3, 4, 5, 6, 7, 8], .s (z4b v2) (z4c v2)] (pA (z9x (X := X) k1) (pA (z9x (X := X) k2) pT)) (by kernel_rfl)

theorem zdo {a0 : z02} {a2 : ByteArray} {r : (z02 × Int)} (h : z7a a0 a2 = some r) : Cs Tryz.prog (GX X) 41 [xP 0 0, xR 3, xS a2] [oB 85 [.pv (.sl (List.map z0e a0.f_s.Chans)), .pv (.sl (List.map z0i a0.f_s.Rules)), .pv (.sl (List.map z0g a0.f_s.Procs)), .row 1, .row 2, .row 3, .row 4, .pv (.int .i64 a0.f_proc), .pv (.sl (List.map z0a a0.f_vars)), .pv (.int .i64 a0.f_e)], oR false 46 6 (List.map z04 a0.f_p.Chans), oR false 51 2 (List.map z0b a0.f_p.Procs), oR false 9 1 (List.map z0a a0.f_chans), oR false 9 1 (List.map z0a a0.f_procs)] (za9 r) (zaa r) := by
 refine fnT (cx := cx X) Tryz.f41 Tryz.call41 Tryz.func41 (by kernel_rfl) ?_
 unfold z7a at h
 obtain ⟨v1, k1, h⟩ := z07 h
 obtain ⟨v2, k2, h⟩ := z07 h
 obtain rfl := retE h
 exact fin (ok X) 9 [.cb (z3y v1), .s (z2p v2) (z2q v2)] (pA (z66 (X := X) k1) (pA (z30 (X := X) k2) pT)) (by kernel_rfl)

theorem zm2 {a0 : z0m} {r : Int} (h : zeh a0 = some r) : Cv Tryz.prog (GX X) 50 [.agg (bs (z04 a0))] (zfk r) := by
 refine Cs.toV (?_ : Cs Tryz.prog (GX X) 50 [.agg (bs (z04 a0))] [] (zfk r) (zql r)) (by kernel_rfl)
 refine fnT (cx := cx X) Tryz.f50 Tryz.call50 Tryz.func50 (by kernel_rfl) ?_
 unfold zeh at h
 obtain rfl := retE h
 exact fin (ok X) 5 [] pT (by kernel_rfl)

theorem zcl {a0 : z02} {a1 : ByteArray} {r : (z02 × Int × (List ByteArray))} (h : z57 a0 a1 = some r) : Cs Tryz.prog (GX X) 116 [xP 0 0, xS a1, .fn (.func 50) [] []] [oB 85 [.pv (.sl (List.map z0e a0.f_s.Chans)), .pv (.sl (List.map z0i a0.f_s.Rules)), .pv (.sl (List.map z0g a0.f_s.Procs)), .row 1, .row 2, .row 3, .row 4, .pv (.int .i64 a0.f_proc), .pv (.sl (List.map z0a a0.f_vars)), .pv (.int .i64 a0.f_e)], oR false 46 6 (List.map z04 a0.f_p.Chans), oR false 51 2 (List.map z0b a0.f_p.Procs), oR false 9 1 (List.map z0a a0.f_chans), oR false 9 1 (List.map z0a a0.f_procs)] (z8t r) (z8u r) := by
 refine fnT (cx := cx X) Tryz.f116 Tryz.call116 Tryz.func116 (by kernel_rfl) ?_
 unfold z57 at h
 obtain ⟨v1, k1, h⟩ := z07 h
 refine adv (ok X) 7 [.s (za9 v1) (zaa v1)] (pA (zdo (X := X) k1) pT) (by kernel_rfl) ?_
 rcases iteE h with ⟨k2, h⟩ | ⟨k2, h⟩
 ·obtain rfl := retE h
  exact fin (ok X) 4 [.b true] (pA k2 pT) (by kernel_rfl)
 ·obtain ⟨v2, k3, h⟩ := z07 h
  obtain ⟨v3, k4, h⟩ := z07 h
  obtain ⟨v4, k5, h⟩ := z07 h
  obtain ⟨v5, k6, h⟩ := z07 h
  obtain rfl := retE h
  exact fin (ok X) 7 [.b false, .o [0, 1, 2, 3, 4, 5, 6, 7, 8, 9, 10, 11, 12, 13, 14, 15, 16], .e (z04 v2), .e (z04 v2), .c (zfk v3), .s (z2p v4) (z2q v4), .o [0, 1, 2, 3, 4, 5, 6, 7, 8, 9, 10, 11], .e (z0e v5)] (pA k2 (pA (ixm z04 k3) (pA (rwm z04 k3) (pA (zm2 (X := X) k4) (pA (z30 (X := X) k5) (pA (ixm z0e k6) pT)))))) (by kernel_rfl)

theorem zku {a0 : z02} {a1 : z06} {r : (z02 × z09)} (h : z9k a0 a1 = some r) : Cs Tryz.prog (GX X) 96 [xP 0 0, .agg (bs (z47 a1))] [oB 85 [.pv (.sl (List.map z0e a0.f_s.Chans)), .pv (.sl (List.map z0i a0.f_s.Rules)), .pv (.sl (List.map z0g a0.f_s.Procs)), .row 1, .row 2, .row 3, .row 4, .pv (.int .i64 a0.f_proc), .pv (.sl (List.map z0a a0.f_vars)), .pv (.int .i64 a0.f_e)], oR false 46 6 (List.map z04 a0.f_p.Chans), oR false 51 2 (List.map z0b a0.f_p.Procs), oR false 9 1 (List.map z0a a0.f_chans), oR false 9 1 (List.map z0a a0.f_procs)] (zfl r) (zfm r) := by
 refine fnT (cx := cx X) Tryz.f96 Tryz.call96 Tryz.func96 (by kernel_rfl) ?_
 unfold z9k at h
 obtain ⟨v1, k1, h⟩ := z07 h
 obtain ⟨v2, k2, h⟩ := z07 h
 obtain ⟨v3, k3, h⟩ := z07 h
 obtain rfl := retE h
 exact fin (ok X) 9 [.s (z8t v1) (z8u v1), .s (z5r v2) (z5s v2), .o [0, 1, 2, 3, 4, 5, 6, 7, 8, 9], .s (z4b v3) (z4c v3)] (pA (zcl (X := X) k1) (pA (z6j (X := X) k2) (pA (z9x (X := X) k3) pT))) (by kernel_rfl)

theorem zol {a0 : z0m} {r : Int} (h : zkc a0 = some r) : Cv Tryz.prog (GX X) 52 [.agg (bs (z04 a0))] (zi6 r) := by
 refine Cs.toV (?_ : Cs Tryz.prog (GX X) 52 [.agg (bs (z04 a0))] [] (zi6 r) (zvj r)) (by kernel_rfl)
 refine fnT (cx := cx X) Tryz.f52 Tryz.call52 Tryz.func52 (by kernel_rfl) ?_
 unfold zkc at h
 obtain rfl := retE h
 exact fin (ok X) 5 [] pT (by kernel_rfl)

theorem zdp {a0 : z02} {a1 : ByteArray} {r : (z02 × Int × (List ByteArray))} (h : z7v a0 a1 = some r) : Cs Tryz.prog (GX X) 116 [xP 0 0, xS a1, .fn (.func 52) [] []] [oB 85 [.pv (.sl (List.map z0e a0.f_s.Chans)), .pv (.sl (List.map z0i a0.f_s.Rules)), .pv (.sl (List.map z0g a0.f_s.Procs)), .row 1, .row 2, .row 3, .row 4, .pv (.int .i64 a0.f_proc), .pv (.sl (List.map z0a a0.f_vars)), .pv (.int .i64 a0.f_e)], oR false 46 6 (List.map z04 a0.f_p.Chans), oR false 51 2 (List.map z0b a0.f_p.Procs), oR false 9 1 (List.map z0a a0.f_chans), oR false 9 1 (List.map z0a a0.f_procs)] (z97 r) (z98 r) := by
 refine fnT (cx := cx X) Tryz.f116 Tryz.call116 Tryz.func116 (by kernel_rfl) ?_
 unfold z7v at h
 obtain ⟨v1, k1, h⟩ := z07 h
 refine adv (ok X) 7 [.s (za9 v1) (zaa v1)] (pA (zdo (X := X) k1) pT) (by kernel_rfl) ?_
 rcases iteE h with ⟨k2, h⟩ | ⟨k2, h⟩
 ·obtain rfl := retE h
  exact fin (ok X) 4 [.b true] (pA k2 pT) (by kernel_rfl)
 ·obtain ⟨v2, k3, h⟩ := z07 h
  obtain ⟨v3, k4, h⟩ := z07 h
  obtain ⟨v4, k5, h⟩ := z07 h
  obtain ⟨v5, k6, h⟩ := z07 h
  obtain rfl := retE h
  exact fin (ok X) 7 [.b false, .o [0, 1, 2, 3, 4, 5, 6, 7, 8, 9, 10, 11, 12, 13, 14, 15, 16], .e (z04 v2), .e (z04 v2), .c (zi6 v3), .s (z2p v4) (z2q v4), .o [0, 1, 2, 3, 4, 5, 6, 7, 8, 9, 10, 11], .e (z0e v5)] (pA k2 (pA (ixm z04 k3) (pA (rwm z04 k3) (pA (zol (X := X) k4) (pA (z30 (X := X) k5) (pA (ixm z0e k6) pT)))))) (by kernel_rfl)

theorem zjq {n : Nat} (ih_check_maker_stmts : ∀ (a0 : z02) (a1 : (List z06)) (r : (z02 × (List z09))), z2f n a0 a1 = some r → Cs Tryz.prog (GX X) 44 [xP 0 0, xL (List.map z22 a1)] [oB 85 [.pv (.sl (List.map z0e a0.f_s.Chans)), .pv (.sl (List.map z0i a0.f_s.Rules)), .pv (.sl (List.map z0g a0.f_s.Procs)), .row 1, .row 2, .row 3, .row 4, .pv (.int .i64 a0.f_proc), .pv (.sl (List.map z0a a0.f_vars)), .pv (.int .i64 a0.f_e)], oR false 46 6 (List.map z04 a0.f_p.Chans), oR false 51 2 (List.map z0b a0.f_p.Procs), oR false 9 1 (List.map z0a a0.f_chans), oR false 9 1 (List.map z0a a0.f_procs)] (z3z r) (z40 r)) (ih_check_maker_stmt : ∀ (a0 : z02) (a1 : z06) (r : (z02 × z09)), z3u n a0 a1 = some r → Cs Tryz.prog (GX X) 74 [xP 0 0, .agg (bs (z47 a1))] [oB 85 [.pv (.sl (List.map z0e a0.f_s.Chans)), .pv (.sl (List.map z0i a0.f_s.Rules)), .pv (.sl (List.map z0g a0.f_s.Procs)), .row 1, .row 2, .row 3, .row 4, .pv (.int .i64 a0.f_proc), .pv (.sl (List.map z0a a0.f_vars)), .pv (.int .i64 a0.f_e)], oR false 46 6 (List.map z04 a0.f_p.Chans), oR false 51 2 (List.map z0b a0.f_p.Procs), oR false 9 1 (List.map z0a a0.f_chans), oR false 9 1 (List.map z0a a0.f_procs)] (z7m r) (z7n r)) (ih_check_maker_recv : ∀ (a0 : z02) (a1 : z06) (r : (z02 × z09)), z4m n a0 a1 = some r → Cs Tryz.prog (GX X) 97 [xP 0 0, .agg (bs (z47 a1))] [oB 85 [.pv (.sl (List.map z0e a0.f_s.Chans)), .pv (.sl (List.map z0i a0.f_s.Rules)), .pv (.sl (List.map z0g a0.f_s.Procs)), .row 1, .row 2, .row 3, .row 4, .pv (.int .i64 a0.f_proc), .pv (.sl (List.map z0a a0.f_vars)), .pv (.int .i64 a0.f_e)], oR false 46 6 (List.map z04 a0.f_p.Chans), oR false 51 2 (List.map z0b a0.f_p.Procs), oR false 9 1 (List.map z0a a0.f_chans), oR false 9 1 (List.map z0a a0.f_procs)] (z6r r) (z6s r)) (a0 : z02) (a1 : (List z06)) (r : (z02 × (List z09))) (h : z2f (n + 1) a0 a1 = some r) : Cs Tryz.prog (GX X) 44 [xP 0 0, xL (List.map z22 a1)] [oB 85 [.pv (.sl (List.map z0e a0.f_s.Chans)), .pv (.sl (List.map z0i a0.f_s.Rules)), .pv (.sl (List.map z0g a0.f_s.Procs)), .row 1, .row 2, .row 3, .row 4, .pv (.int .i64 a0.f_proc), .pv (.sl (List.map z0a a0.f_vars)), .pv (.int .i64 a0.f_e)], oR false 46 6 (List.map z04 a0.f_p.Chans), oR false 51 2 (List.map z0b a0.f_p.Procs), oR false 9 1 (List.map z0a a0.f_chans), oR false 9 1 (List.map z0a a0.f_procs)] (z3z r) (z40 r) := by
 refine fnT (cx := cx X) Tryz.f44 Tryz.call44 Tryz.func44 (by kernel_rfl) ?_
 rw [z2f] at h
 refine adv (ok X) 7 [.i (a1.length : Int)] (pA (lm z22 a1) pT) (by kernel_rfl) ?_
 refine lp (ok X) (z8y (z2f n) (z3u n) (z4m n) a1) (fun (x1 : (Int × z02 × (List z0m) × (List z0w) × (List ByteArray) × (List ByteArray) × (List z09))) => ⟨27, 5, [(0, [xP 0 0]), (5, [xR 5]), (8, [xL (List.map z22 a1)]), (9, [xI (a1.length : Int)]), (10, [xI x1.1])], [oB 85 [.pv (.sl (List.map z0e x1.2.1.f_s.Chans)), .pv (.sl (List.map z0i x1.2.1.f_s.Rules)), .pv (.sl (List.map z0g x1.2.1.f_s.Procs)), .row 1, .row 2, .row 3, .row 4, .pv (.int .i64 x1.2.1.f_proc), .pv (.sl (List.map z0a x1.2.1.f_vars)), .pv (.int .i64 x1.2.1.f_e)], oR false 46 6 (List.map z04 x1.2.2.1), oR false 51 2 (List.map z0b x1.2.2.2.1), oR false 9 1 (List.map z0a x1.2.2.2.2.1), oR false 9 1 (List.map z0a x1.2.2.2.2.2.1), oR true 96 20 (List.map z1g x1.2.2.2.2.2.2)]⟩) (fun (j1 : (z02 × (List z0m) × (List z0w) × (List ByteArray) × (List ByteArray) × (List z09))) => ⟨27, 5, [(5, [xR 5])], [oB 85 [.pv (.sl (List.map z0e j1.1.f_s.Chans)), .pv (.sl (List.map z0i j1.1.f_s.Rules)), .pv (.sl (List.map z0g j1.1.f_s.Procs)), .row 1, .row 2, .row 3, .row 4, .pv (.int .i64 j1.1.f_proc), .pv (.sl (List.map z0a j1.1.f_vars)), .pv (.int .i64 j1.1.f_e)], oR false 46 6 (List.map z04 j1.2.1), oR false 51 2 (List.map z0b j1.2.2.1), oR false 9 1 (List.map z0a j1.2.2.2.1), oR false 9 1 (List.map z0a j1.2.2.2.2.1), oR true 96 20 (List.map z1g j1.2.2.2.2.2)]⟩) zjd (0, a0, a0.f_p.Chans, a0.f_p.Procs, a0.f_chans, a0.f_procs, []) (fun _ => ⟨_, _, _, _, rfl⟩) h (by kernel_rfl) (fun x1 o h => ?_) (fun r' h => ?_) (fun j1 h => ?_)
 ·unfold z8y at h
  rcases iteE h with ⟨k1, h⟩ | ⟨k1, h⟩
  ·obtain ⟨v1, k2, h⟩ := z07 h
   refine adv (ok X) 12 [.b true, .e (z47 v1)] (pA k1 (pA (ixr ze6 k2) pT)) (by kernel_rfl) ?_
   rcases iteE h with ⟨k3, h⟩ | ⟨k3, h⟩
   ·obtain rfl := retE h
    exact fin (ok X) 2 [.b true] (pA k3 pT) (by kernel_rfl)
   ·obtain ⟨v2, k4, h⟩ := z07 h
    obtain ⟨v3, k5, h⟩ := z07 h
    obtain rfl := retE h
    exact fin (ok X) 5 [.b false, .s (z7m v2) (z7n v2), .bl (List.map z1g [v2.2]), .l (List.map z1g v3)] (pA k3 (pA (ih_check_maker_stmt _ _ _ k4) (pA (blc (e := z1g) (x := v2.2) (zcb _).symm (bl0 z1g)) (pA (apm (L := x1.2.2.2.2.2.2) (M := [v2.2]) zgw k5) pT)))) (by kernel_rfl)
  ·obtain rfl := retE h
   exact fin (ok X) 5 [.b false] (pA k1 pT) (by kernel_rfl)
 ·cases h
 ·obtain rfl := retE h
  exact fin (ok X) 3 [] pT (by kernel_rfl)

theorem zkv {n : Nat} (ih_check_maker_stmts : ∀ (a0 : z02) (a1 : (List z06)) (r : (z02 × (List z09))), z2f n a0 a1 = some r → Cs Tryz.prog (GX X) 44 [xP 0 0, xL (List.map z22 a1)] [oB 85 [.pv (.sl (List.map z0e a0.f_s.Chans)), .pv (.sl (List.map z0i a0.f_s.Rules)), .pv (.sl (List.map z0g a0.f_s.Procs)), .row 1, .row 2, .row 3, .row 4, .pv (.int .i64 a0.f_proc), .pv (.sl (List.map z0a a0.f_vars)), .pv (.int .i64 a0.f_e)], oR false 46 6 (List.map z04 a0.f_p.Chans), oR false 51 2 (List.map z0b a0.f_p.Procs), oR false 9 1 (List.map z0a a0.f_chans), oR false 9 1 (List.map z0a a0.f_procs)] (z3z r) (z40 r)) (ih_check_maker_stmt : ∀ (a0 : z02) (a1 : z06) (r : (z02 × z09)), z3u n a0 a1 = some r → Cs Tryz.prog (GX X) 74 [xP 0 0, .agg (bs (z47 a1))] [oB 85 [.pv (.sl (List.map z0e a0.f_s.Chans)), .pv (.sl (List.map z0i a0.f_s.Rules)), .pv (.sl (List.map z0g a0.f_s.Procs)), .row 1, .row 2, .row 3, .row 4, .pv (.int .i64 a0.f_proc), .pv (.sl (List.map z0a a0.f_vars)), .pv (.int .i64 a0.f_e)], oR false 46 6 (List.map z04 a0.f_p.Chans), oR false 51 2 (List.map z0b a0.f_p.Procs), oR false 9 1 (List.map z0a a0.f_chans), oR false 9 1 (List.map z0a a0.f_procs)] (z7m r) (z7n r)) (ih_check_maker_recv : ∀ (a0 : z02) (a1 : z06) (r : (z02 × z09)), z4m n a0 a1 = some r → Cs Tryz.prog (GX X) 97 [xP 0 0, .agg (bs (z47 a1))] [oB 85 [.pv (.sl (List.map z0e a0.f_s.Chans)), .pv (.sl (List.map z0i a0.f_s.Rules)), .pv (.sl (List.map z0g a0.f_s.Procs)), .row 1, .row 2, .row 3, .row 4, .pv (.int .i64 a0.f_proc), .pv (.sl (List.map z0a a0.f_vars)), .pv (.int .i64 a0.f_e)], oR false 46 6 (List.map z04 a0.f_p.Chans), oR false 51 2 (List.map z0b a0.f_p.Procs), oR false 9 1 (List.map z0a a0.f_chans), oR false 9 1 (List.map z0a a0.f_procs)] (z6r r) (z6s r)) (a0 : z02) (a1 : z06) (r : (z02 × z09)) (h : z3u (n + 1) a0 a1 = some r) : Cs Tryz.prog (GX X) 74 [xP 0 0, .agg (bs (z47 a1))] [oB 85 [.pv (.sl (List.map z0e a0.f_s.Chans)), .pv (.sl (List.map z0i a0.f_s.Rules)), .pv (.sl (List.map z0g a0.f_s.Procs)), .row 1, .row 2, .row 3, .row 4, .pv (.int .i64 a0.f_proc), .pv (.sl (List.map z0a a0.f_vars)), .pv (.int .i64 a0.f_e)], oR false 46 6 (List.map z04 a0.f_p.Chans), oR false 51 2 (List.map z0b a0.f_p.Procs), oR false 9 1 (List.map z0a a0.f_chans), oR false 9 1 (List.map z0a a0.f_procs)] (z7m r) (z7n r) := by
 refine fnT (cx := cx X) Tryz.f74 Tryz.call74 Tryz.func74 (by kernel_rfl) ?_
 rw [z3u] at h
 rcases iteE h with ⟨k1, h⟩ | ⟨k1, h⟩
 ·obtain ⟨v1, k2, h⟩ := z07 h
  obtain ⟨v2, k3, h⟩ := z07 h
  obtain rfl := retE h
  exact fin (ok X) 18 [.b true, .o [0, 1, 2, 3, 4, 5, 6, 7, 8, 9], .s (z5r v1) (z5s v1), .s (z4b v2) (z4c v2)] (pA k1 (pA (z6j (X := X) k2) (pA (z9x (X := X) k3) pT))) (by kernel_rfl)
 ·refine adv (ok X) 13 [.b false] (pA k1 pT) (by kernel_rfl) ?_
  rcases iteE h with ⟨k4, h⟩ | ⟨k4, h⟩
  ·obtain ⟨v3, k5, h⟩ := z07 h
   obtain rfl := retE h
   exact fin (ok X) 6 [.b true, .o [0, 1, 2, 3, 4, 5, 6, 7, 8, 9], .s (z5r v3) (z5s v3)] (pA k4 (pA (z6j (X := X) k5) pT)) (by kernel_rfl)
  ·refine adv (ok X) 3 [.b false] (pA k4 pT) (by kernel_rfl) ?_
   rcases iteE h with ⟨k6, h⟩ | ⟨k6, h⟩
   ·obtain ⟨v4, k7, h⟩ := z07 h
    obtain rfl := retE h
    exact fin (ok X) 6 [.b true, .s (z9v v4) (z9w v4)] (pA k6 (pA (zci (X := X) k7) pT)) (by kernel_rfl)
   ·refine adv (ok X) 3 [.b false] (pA k6 pT) (by kernel_rfl) ?_
    rcases iteE h with ⟨k8, h⟩ | ⟨k8, h⟩
    ·obtain ⟨v5, k9, h⟩ := z07 h
     obtain ⟨v6, k10, h⟩ := z07 h
     obtain rfl := retE h
     exact fin (ok X) 8 [.b true, .s (z9v v5) (z9w v5), .s (z3z v6) (z40 v6)] (pA k8 (pA (zci (X := X) k9) (pA (ih_check_maker_stmts _ _ _ k10) pT))) (by kernel_rfl)
    ·refine adv (ok X) 3 [.b false] (pA k8 pT) (by kernel_rfl) ?_
     rcases iteE h with ⟨k11, h⟩ | ⟨k11, h⟩
     ·obtain ⟨v7, k12, h⟩ := z07 h
      obtain ⟨v8, k13, h⟩ := z07 h
      obtain ⟨v9, k14, h⟩ := z07 h
      obtain rfl := retE h
      exact fin (ok X) 10 [.b true, .s (z9v v7) (z9w v7), .s (z3z v8) (z40 v8), .s (z3z v9) (z40 v9)] (pA k11 (pA (zci (X := X) k12) (pA (ih_check_maker_stmts _ _ _ k13) (pA (ih_check_maker_stmts _ _ _ k14) pT)))) (by kernel_rfl)
     ·refine adv (ok X) 3 [.b false] (pA k11 pT) (by kernel_rfl) ?_
      rcases iteE h with ⟨k15, h⟩ | ⟨k15, h⟩
      ·obtain ⟨v10, k16, h⟩ := z07 h
       obtain rfl := retE h
       exact fin (ok X) 4 [.b true, .s (zfl v10) (zfm v10)] (pA k15 (pA (zku (X := X) k16) pT)) (by kernel_rfl)
      ·refine adv (ok X) 3 [.b false] (pA k15 pT) (by kernel_rfl) ?_
       rcases iteE h with ⟨k17, h⟩ | ⟨k17, h⟩
       ·obtain ⟨v11, k18, h⟩ := z07 h
        obtain rfl := retE h
        exact fin (ok X) 4 [.b true, .s (z6r v11) (z6s v11)] (pA k17 (pA (ih_check_maker_recv _ _ _ k18) pT)) (by kernel_rfl)
       ·obtain rfl := retE h
        exact fin (ok X) 6 [.b false] (pA k17 pT) (by kernel_rfl)

theorem zkw {n : Nat} (ih_check_maker_stmts : ∀ (a0 : z02) (a1 : (List z06)) (r : (z02 × (List z09))), z2f n a0 a1 = some r → Cs Tryz.prog (GX X) 44 [xP 0 0, xL (List.map z22 a1)] [oB 85 [.pv (.sl (List.map z0e a0.f_s.Chans)), .pv (.sl (List.map z0i a0.f_s.Rules)), .pv (.sl (List.map z0g a0.f_s.Procs)), .row 1, .row 2, .row 3, .row 4, .pv (.int .i64 a0.f_proc), .pv (.sl (List.map z0a a0.f_vars)), .pv (.int .i64 a0.f_e)], oR false 46 6 (List.map z04 a0.f_p.Chans), oR false 51 2 (List.map z0b a0.f_p.Procs), oR false 9 1 (List.map z0a a0.f_chans), oR false 9 1 (List.map z0a a0.f_procs)] (z3z r) (z40 r)) (ih_check_maker_stmt : ∀ (a0 : z02) (a1 : z06) (r : (z02 × z09)), z3u n a0 a1 = some r → Cs Tryz.prog (GX X) 74 [xP 0 0, .agg (bs (z47 a1))] [oB 85 [.pv (.sl (List.map z0e a0.f_s.Chans)), .pv (.sl (List.map z0i a0.f_s.Rules)), .pv (.sl (List.map z0g a0.f_s.Procs)), .row 1, .row 2, .row 3, .row 4, .pv (.int .i64 a0.f_proc), .pv (.sl (List.map z0a a0.f_vars)), .pv (.int .i64 a0.f_e)], oR false 46 6 (List.map z04 a0.f_p.Chans), oR false 51 2 (List.map z0b a0.f_p.Procs), oR false 9 1 (List.map z0a a0.f_chans), oR false 9 1 (List.map z0a a0.f_procs)] (z7m r) (z7n r)) (ih_check_maker_recv : ∀ (a0 : z02) (a1 : z06) (r : (z02 × z09)), z4m n a0 a1 = some r → Cs Tryz.prog (GX X) 97 [xP 0 0, .agg (bs (z47 a1))] [oB 85 [.pv (.sl (List.map z0e a0.f_s.Chans)), .pv (.sl (List.map z0i a0.f_s.Rules)), .pv (.sl (List.map z0g a0.f_s.Procs)), .row 1, .row 2, .row 3, .row 4, .pv (.int .i64 a0.f_proc), .pv (.sl (List.map z0a a0.f_vars)), .pv (.int .i64 a0.f_e)], oR false 46 6 (List.map z04 a0.f_p.Chans), oR false 51 2 (List.map z0b a0.f_p.Procs), oR false 9 1 (List.map z0a a0.f_chans), oR false 9 1 (List.map z0a a0.f_procs)] (z6r r) (z6s r)) (a0 : z02) (a1 : z06) (r : (z02 × z09)) (h : z4m (n + 1) a0 a1 = some r) : Cs Tryz.prog (GX X) 97 [xP 0 0, .agg (bs (z47 a1))] [oB 85 [.pv (.sl (List.map z0e a0.f_s.Chans)), .pv (.sl (List.map z0i a0.f_s.Rules)), .pv (.sl (List.map z0g a0.f_s.Procs)), .row 1, .row 2, .row 3, .row 4, .pv (.int .i64 a0.f_proc), .pv (.sl (List.map z0a a0.f_vars)), .pv (.int .i64 a0.f_e)], oR false 46 6 (List.map z04 a0.f_p.Chans), oR false 51 2 (List.map z0b a0.f_p.Procs), oR false 9 1 (List.map z0a a0.f_chans), oR false 9 1 (List.map z0a a0.f_procs)] (z6r r) (z6s r) := by
 refine fnT (cx := cx X) Tryz.f97 Tryz.call97 Tryz.func97 (by kernel_rfl) ?_
 rw [z4m] at h
 obtain ⟨v1, k1, h⟩ := z07 h
 refine adv (ok X) 11 [.s (z97 v1) (z98 v1), .i (a1.Arms.length : Int)] (pA (zdp (X := X) k1) (pA (lm z4p a1.Arms) pT)) (by kernel_rfl) ?_
 refine lp (ok X) (zbq (z2f n) (z3u n) (z4m n) a1 v1) (fun (x1 : (Int × z02 × (List z0m) × (List z0w) × (List ByteArray) × (List ByteArray) × (List ByteArray) × (List z2i))) => ⟨63, 5, [(0, [xP 0 0]), (4, [xP 6 0]), (6, [xL (List.map z0a v1.2.2)]), (7, [xP 7 0]), (8, [xR 8]), (25, [xL (List.map z4p a1.Arms)]), (26, [xI (a1.Arms.length : Int)]), (27, [xI x1.1])], [oB 85 [.pv (.sl (List.map z0e x1.2.1.f_s.Chans)), .pv (.sl (List.map z0i x1.2.1.f_s.Rules)), .pv (.sl (List.map z0g x1.2.1.f_s.Procs)), .row 1, .row 2, .row 3, .row 4, .pv (.int .i64 x1.2.1.f_proc), .pv (.sl (List.map z0a x1.2.1.f_vars)), .pv (.int .i64 x1.2.1.f_e)], oR false 46 6 (List.map z04 x1.2.2.1), oR false 51 2 (List.map z0b x1.2.2.2.1), oR false 9 1 (List.map z0a x1.2.2.2.2.1), oR false 9 1 (List.map z0a x1.2.2.2.2.2.1), none, oB 96 [.pv (.int .i64 0), .pv (.int .i64 0), .pv (.int .i64 0), .pv (.int .i64 0), .pv (.int .i64 0), .pv (.int .i64 0), .pv (.int .i64 0), .emp, .pv (.int .i64 0), .pv (.int .i64 0), .pv (.int .i64 0), .pv (.int .i64 0), .emp, .pv (.int .i64 0), .pv (.int .i64 0), .pv (.int .i64 0), .emp, .emp, .emp, .emp], oB 96 [.pv (.int .i64 a1.Kind), .pv (.int .i64 0), .pv (.int .i64 v1.2.1), .pv (.int .i64 0), .pv (.int .i64 0), .pv (.int .i64 0), .pv (.int .i64 0), .emp, .pv (.int .i64 0), .pv (.int .i64 0), .pv (.int .i64 0), .pv (.int .i64 0), .emp, .pv (.int .i64 0), .pv (.int .i64 0), .pv (.int .i64 0), .emp, .emp, .emp, .row 9], oR true 9 1 (List.map z0a x1.2.2.2.2.2.2.1), oR true 110 3 (List.map z2o x1.2.2.2.2.2.2.2)]⟩) (fun (j1 : (z02 × (List z0m) × (List z0w) × (List ByteArray) × (List ByteArray) × (List z2i))) => ⟨63, 5, [(4, [xP 6 0]), (7, [xP 7 0])], [oB 85 [.pv (.sl (List.map z0e j1.1.f_s.Chans)), .pv (.sl (List.map z0i j1.1.f_s.Rules)), .pv (.sl (List.map z0g j1.1.f_s.Procs)), .row 1, .row 2, .row 3, .row 4, .pv (.int .i64 j1.1.f_proc), .pv (.sl (List.map z0a j1.1.f_vars)), .pv (.int .i64 j1.1.f_e)], oR false 46 6 (List.map z04 j1.2.1), oR false 51 2 (List.map z0b j1.2.2.1), oR false 9 1 (List.map z0a j1.2.2.2.1), oR false 9 1 (List.map z0a j1.2.2.2.2.1), none, oB 96 [.pv (.int .i64 0), .pv (.int .i64 0), .pv (.int .i64 0), .pv (.int .i64 0), .pv (.int .i64 0), .pv (.int .i64 0), .pv (.int .i64 0), .emp, .pv (.int .i64 0), .pv (.int .i64 0), .pv (.int .i64 0), .pv (.int .i64 0), .emp, .pv (.int .i64 0), .pv (.int .i64 0), .pv (.int .i64 0), .emp, .emp, .emp, .emp], oB 96 [.pv (.int .i64 a1.Kind), .pv (.int .i64 0), .pv (.int .i64 v1.2.1), .pv (.int .i64 0), .pv (.int .i64 0), .pv (.int .i64 0), .pv (.int .i64 0), .emp, .pv (.int .i64 0), .pv (.int .i64 0), .pv (.int .i64 0), .pv (.int .i64 0), .emp, .pv (.int .i64 0), .pv (.int .i64 0), .pv (.int .i64 0), .emp, .emp, .emp, .row 9], none, oR true 110 3 (List.map z2o j1.2.2.2.2.2)]⟩) zkd (0, v1.1, v1.1.f_p.Chans, v1.1.f_p.Procs, v1.1.f_chans, v1.1.f_procs, [], []) (fun _ => ⟨_, _, _, _, rfl⟩) h (by kernel_rfl) (fun x1 o h => ?_) (fun r' h => ?_) (fun j1 h => ?_)
 ·unfold zbq at h
  rcases iteE h with ⟨k2, h⟩ | ⟨k2, h⟩
  ·obtain ⟨v2, k3, h⟩ := z07 h
   obtain ⟨v3, k4, h⟩ := z07 h
   obtain ⟨v4, k5, h⟩ := z07 h
   obtain ⟨v5, k6, h⟩ := z07 h
   obtain ⟨v6, k7, h⟩ := z07 h
   obtain ⟨v7, k8, h⟩ := z07 h
   obtain rfl := retE h
   exact fin (ok X) 18 [.b true, .e (zn9 v2), .s (z5r v3) (z5s v3), .s (zbj v4) (zbk v4), .o [0, 1, 2, 3, 4, 5, 6, 7, 8], .s (z5r v5) (z5s v5), .o [0, 1, 2, 3, 4, 5, 6, 7, 8, 9, 10, 11, 12], .s (z3z v6) (z40 v6), .bl (List.map z2o [(z2i.mk v3.2 v5.2 v6.2)]), .l (List.map z2o v7)] (pA k2 (pA (ixr zdd k3) (pA (z6j (X := X) k4) (pA (zf5 (X := X) k5) (pA (z6j (X := X) k6) (pA (ih_check_maker_stmts _ _ _ k7) (pA (blc (e := z2o) (x := (z2i.mk v3.2 v5.2 v6.2)) (zdb _).symm (bl0 z2o)) (pA (apm (L := x1.2.2.2.2.2.2.2) (M := [(z2i.mk v3.2 v5.2 v6.2)]) zha k8) pT)))))))) (by kernel_rfl)
  ·obtain rfl := retE h
   exact fin (ok X) 5 [.b false] (pA k2 pT) (by kernel_rfl)
 ·cases h
 ·obtain rfl := retE h
  exact fin (ok X) 3 [] pT (by kernel_rfl)

theorem zdq : ∀ n : Nat, (∀ (a0 : z02) (a1 : (List z06)) (r : (z02 × (List z09))), z2f n a0 a1 = some r → Cs Tryz.prog (GX X) 44 [xP 0 0, xL (List.map z22 a1)] [oB 85 [.pv (.sl (List.map z0e a0.f_s.Chans)), .pv (.sl (List.map z0i a0.f_s.Rules)), .pv (.sl (List.map z0g a0.f_s.Procs)), .row 1, .row 2, .row 3, .row 4, .pv (.int .i64 a0.f_proc), .pv (.sl (List.map z0a a0.f_vars)), .pv (.int .i64 a0.f_e)], oR false 46 6 (List.map z04 a0.f_p.Chans), oR false 51 2 (List.map z0b a0.f_p.Procs), oR false 9 1 (List.map z0a a0.f_chans), oR false 9 1 (List.map z0a a0.f_procs)] (z3z r) (z40 r)) ∧ (∀ (a0 : z02) (a1 : z06) (r : (z02 × z09)), z3u n a0 a1 = some r → Cs Tryz.prog (GX X) 74 [xP 0 0, .agg (bs (z47 a1))] [oB 85 [.pv (.sl (List.map z0e a0.f_s.Chans)), .pv (.sl (List.map z0i a0.f_s.Rules)), .pv (.sl (List.map z0g a0.f_s.Procs)), .row 1, .row 2, .row 3, .row 4, .pv (.int .i64 a0.f_proc), .pv (.sl (List.map z0a a0.f_vars)), .pv (.int .i64 a0.f_e)], oR false 46 6 (List.map z04 a0.f_p.Chans), oR false 51 2 (List.map z0b a0.f_p.Procs), oR false 9 1 (List.map z0a a0.f_chans), oR false 9 1 (List.map z0a a0.f_procs)] (z7m r) (z7n r)) ∧ (∀ (a0 : z02) (a1 : z06) (r : (z02 × z09)), z4m n a0 a1 = some r → Cs Tryz.prog (GX X) 97 [xP 0 0, .agg (bs (z47 a1))] [oB 85 [.pv (.sl (List.map z0e a0.f_s.Chans)), .pv (.sl (List.map z0i a0.f_s.Rules)), .pv (.sl (List.map z0g a0.f_s.Procs)), .row 1, .row 2, .row 3, .row 4, .pv (.int .i64 a0.f_proc), .pv (.sl (List.map z0a a0.f_vars)), .pv (.int .i64 a0.f_e)], oR false 46 6 (List.map z04 a0.f_p.Chans), oR false 51 2 (List.map z0b a0.f_p.Procs), oR false 9 1 (List.map z0a a0.f_chans), oR false 9 1 (List.map z0a a0.f_procs)] (z6r r) (z6s r))
 | 0 => ⟨(fun _ _ _ h => by rw [z2f] at h; cases h), (fun _ _ _ h => by rw [z3u] at h; cases h), (fun _ _ _ h => by rw [z4m] at h; cases h)⟩
 | n + 1 => by
  have ih := zdq n
  exact ⟨zjq ih.1 ih.2.1 ih.2.2, zkv ih.1 ih.2.1 ih.2.2, zkw ih.1 ih.2.1 ih.2.2⟩

theorem zjr {a0 : z02} {a1 : (List z06)} {r : (z02 × (List z09))} (h : z81 a0 a1 = some r) : Cs Tryz.prog (GX X) 44 [xP 0 0, xL (List.map z22 a1)] [oB 85 [.pv (.sl (List.map z0e a0.f_s.Chans)), .pv (.sl (List.map z0i a0.f_s.Rules)), .pv (.sl (List.map z0g a0.f_s.Procs)), .row 1, .row 2, .row 3, .row 4, .pv (.int .i64 a0.f_proc), .pv (.sl (List.map z0a a0.f_vars)), .pv (.int .i64 a0.f_e)], oR false 46 6 (List.map z04 a0.f_p.Chans), oR false 51 2 (List.map z0b a0.f_p.Procs), oR false 9 1 (List.map z0a a0.f_chans), oR false 9 1 (List.map z0a a0.f_procs)] (z3z r) (z40 r) := by
 obtain ⟨n, hn⟩ := unfE h
 exact (zdq n).1 _ _ _ hn

theorem zkx {a0 : z02} {a1 : Int} {a2 : z59} {r : z02} (h : z7q a0 a1 a2 = some r) : Cs Tryz.prog (GX X) 25 [xP 0 0, xI a1, .agg (bs (z0g a2))] [oB 85 [.pv (.sl (List.map z0e a0.f_s.Chans)), .pv (.sl (List.map z0i a0.f_s.Rules)), .pv (.sl (List.map z0g a0.f_s.Procs)), .row 1, .row 2, .row 3, .row 4, .pv (.int .i64 a0.f_proc), .pv (.sl (List.map z0a a0.f_vars)), .pv (.int .i64 a0.f_e)], oR false 46 6 (List.map z04 a0.f_p.Chans), oR false 51 2 (List.map z0b a0.f_p.Procs), oR false 9 1 (List.map z0a a0.f_chans), oR false 9 1 (List.map z0a a0.f_procs)] (zfn r) (zfo r) := by
 refine fnT (cx := cx X) Tryz.f25 Tryz.call25 Tryz.func25 (by kernel_rfl) ?_
 unfold z7q at h
 obtain ⟨v1, k1, h⟩ := z07 h
 obtain ⟨v2, k2, h⟩ := z07 h
 obtain ⟨v3, k3, h⟩ := z07 h
 obtain ⟨v4, k4, h⟩ := z07 h
 obtain rfl := retE h
 exact fin (ok X) 9 [.i (a2.Vars.length : Int), .s (z2p v1) (z2q v1), .s (z9c v2) (z9d v2), .o [0, 1, 2, 3, 4, 5, 6, 7, 8, 9, 10], .o [0, 1, 2, 3, 4, 5, 6, 7, 8, 9, 10, 11, 12, 13, 14, 15, 16, 17, 18, 19], .i (a2.Vars.length : Int), .s (z3z v3) (z40 v3), .l (List.map z0b v4)] (pA (lm z0a a2.Vars) (pA (z30 (X := X) k1) (pA (zf6 (X := X) k2) (pA (lm z0a a2.Vars) (pA (zjr (X := X) k3) (pA (apm (L := v3.1.f_p.Procs) (M := [(z0w.mk (a2.Vars.length : Int) v3.2)]) zgz k4) pT)))))) (by kernel_rfl)

theorem zp6 {a0 : z2l} {r : (z10 × Int)} (h : zev a0 = some r) : Cv Tryz.prog (GX X) 9 [.agg (bs (z6d a0))] (ze9 r) := by
 refine Cs.toV (?_ : Cs Tryz.prog (GX X) 9 [.agg (bs (z6d a0))] [] (ze9 r) (zke r)) (by kernel_rfl)
 refine fnT (cx := cx X) Tryz.f9 Tryz.call9 Tryz.func9 (by kernel_rfl) ?_
 unfold zev at h
 obtain ⟨v1, k1, h⟩ := z07 h
 refine adv (ok X) 5 [.c (zes v1)] (pA (znm (X := X) k1) pT) (by kernel_rfl) ?_
 rcases iteE h with ⟨k2, h⟩ | ⟨k2, h⟩
 ·obtain rfl := retE h
  exact fin (ok X) 4 [.b true] (pA k2 pT) (by kernel_rfl)
 ·refine adv (ok X) 5 [.b false] (pA k2 pT) (by kernel_rfl) ?_
  obtain ⟨v2, k3, h⟩ := z07 h
  obtain ⟨v3, k4, h⟩ := z07 h
  refine adv (ok X) 6 [.z (.lc 2 3 46 6), .z (.lc 2 4 51 2), .z (.lc 2 5 9 1), .z (.lc 2 6 9 1), .z (.nb 2), .s (za7 v2) (za8 v2), .s (zcd v3) (zce v3), .i (a0.Rules.length : Int)] (pA (zhr (X := X) k3) (pA (zks (X := X) k4) (pA (lm z0i a0.Rules) pT))) (by kernel_rfl) ?_
  refine lp (ok X) (zfy a0 v3) (fun (x1 : Int) => ⟨68, 0, [(1, [xP 0 0]), (2, [xP 1 0]), (4, [xP 2 0]), (21, [xL (List.map z0i a0.Rules)]), (22, [xI (a0.Rules.length : Int)]), (23, [xI x1])], [oB 38 (bs (z6d a0)), oB 31 [.emp, .emp], oB 85 [.pv (.sl (List.map z0e v3.f_s.Chans)), .pv (.sl (List.map z0i v3.f_s.Rules)), .pv (.sl (List.map z0g v3.f_s.Procs)), .row 3, .row 4, .row 5, .row 6, .pv (.int .i64 v3.f_proc), .pv (.sl (List.map z0a v3.f_vars)), .pv (.int .i64 v3.f_e)], oR true 46 6 (List.map z04 v3.f_p.Chans), oR false 51 2 (List.map z0b v3.f_p.Procs), oR true 9 1 (List.map z0a v3.f_chans), oR true 9 1 (List.map z0a v3.f_procs)]⟩) (fun (j1 : Unit) => ⟨68, 0, [(1, [xP 0 0]), (2, [xP 1 0]), (4, [xP 2 0])], [oB 38 (bs (z6d a0)), oB 31 [.emp, .emp], oB 85 [.pv (.sl (List.map z0e v3.f_s.Chans)), .pv (.sl (List.map z0i v3.f_s.Rules)), .pv (.sl (List.map z0g v3.f_s.Procs)), .row 3, .row 4, .row 5, .row 6, .pv (.int .i64 v3.f_proc), .pv (.sl (List.map z0a v3.f_vars)), .pv (.int .i64 v3.f_e)], oR true 46 6 (List.map z04 v3.f_p.Chans), oR false 51 2 (List.map z0b v3.f_p.Procs), oR true 9 1 (List.map z0a v3.f_chans), oR true 9 1 (List.map z0a v3.f_procs)]⟩) zkf 0 (fun _ => ⟨_, _, _, _, rfl⟩) h (by kernel_rfl) (fun x1 o h => ?_) (fun r' h => ?_) (fun j1 h => ?_)
  ·unfold zfy at h
   rcases iteE h with ⟨k5, h⟩ | ⟨k5, h⟩
   ·obtain ⟨v4, k6, h⟩ := z07 h
    refine adv (ok X) 11 [.b true, .e (z0i v4)] (pA k5 (pA (ixm z0i k6) pT)) (by kernel_rfl) ?_
    rcases iteE h with ⟨k7, h⟩ | ⟨k7, h⟩
    ·cases h
    ·obtain rfl := retE h
     exact fin (ok X) 4 [.b false] (pA k7 pT) (by kernel_rfl)
   ·obtain rfl := retE h
    exact fin (ok X) 5 [.b false] (pA k5 pT) (by kernel_rfl)
  ·cases h
  ·refine adv (ok X) 3 [.i (a0.Procs.length : Int)] (pA (lm z0g a0.Procs) pT) (by kernel_rfl) ?_
   refine lp (ok X) (z9n a0) (fun (x2 : (Int × z02 × (List z0m) × (List z0w) × (List ByteArray) × (List ByteArray))) => ⟨68, 0, [(2, [xP 1 0]), (4, [xP 2 0]), (37, [xL (List.map z0g a0.Procs)]), (38, [xI (a0.Procs.length : Int)]), (39, [xI x2.1])], [none, oB 31 [.emp, .emp], oB 85 [.pv (.sl (List.map z0e x2.2.1.f_s.Chans)), .pv (.sl (List.map z0i x2.2.1.f_s.Rules)), .pv (.sl (List.map z0g x2.2.1.f_s.Procs)), .row 3, .row 4, .row 5, .row 6, .pv (.int .i64 x2.2.1.f_proc), .pv (.sl (List.map z0a x2.2.1.f_vars)), .pv (.int .i64 x2.2.1.f_e)], oR true 46 6 (List.map z04 x2.2.2.1), oR true 51 2 (List.map z0b x2.2.2.2.1), oR true 9 1 (List.map z0a x2.2.2.2.2.1), oR true 9 1 (List.map z0a x2.2.2.2.2.2)]⟩) (fun (j2 : (z02 × (List z0m) × (List z0w) × (List ByteArray) × (List ByteArray))) => ⟨68, 0, [(2, [xP 1 0]), (4, [xP 2 0])], [none, oB 31 [.emp, .emp], oB 85 [.pv (.sl (List.map z0e j2.1.f_s.Chans)), .pv (.sl (List.map z0i j2.1.f_s.Rules)), .pv (.sl (List.map z0g j2.1.f_s.Procs)), .row 3, .row 4, .row 5, .row 6, .pv (.int .i64 j2.1.f_proc), .pv (.sl (List.map z0a j2.1.f_vars)), .pv (.int .i64 j2.1.f_e)], oR true 46 6 (List.map z04 j2.2.1), oR true 51 2 (List.map z0b j2.2.2.1), oR true 9 1 (List.map z0a j2.2.2.2.1), oR true 9 1 (List.map z0a j2.2.2.2.2)]⟩) zkf (0, v3, v3.f_p.Chans, v3.f_p.Procs, v3.f_chans, v3.f_procs) (fun _ => ⟨_, _, _, _, rfl⟩) h (by kernel_rfl) (fun x2 o h => ?_) (fun r' h => ?_) (fun j2 h => ?_)
   ·unfold z9n at h
    rcases iteE h with ⟨k8, h⟩ | ⟨k8, h⟩
    ·refine adv (ok X) 6 [.b true] (pA k8 pT) (by kernel_rfl) ?_
     refine jn (ok X) 1 (fun (j3 : (z02 × (List z0m) × (List z0w) × (List ByteArray) × (List ByteArray))) => ⟨68, 0, [(2, [xP 1 0]), (4, [xP 2 0]), (37, [xL (List.map z0g a0.Procs)]), (38, [xI (a0.Procs.length : Int)]), (39, [xI x2.1])], [none, oB 31 [.emp, .emp], oB 85 [.pv (.sl (List.map z0e j3.1.f_s.Chans)), .pv (.sl (List.map z0i j3.1.f_s.Rules)), .pv (.sl (List.map z0g j3.1.f_s.Procs)), .row 3, .row 4, .row 5, .row 6, .pv (.int .i64 j3.1.f_proc), .pv (.sl (List.map z0a j3.1.f_vars)), .pv (.int .i64 j3.1.f_e)], oR true 46 6 (List.map z04 j3.2.1), oR true 51 2 (List.map z0b j3.2.2.1), oR true 9 1 (List.map z0a j3.2.2.2.1), oR true 9 1 (List.map z0a j3.2.2.2.2)]⟩) h (fun j3 h => ?_) (fun j3 h => ?_)
     ·obtain ⟨v5, k9, h⟩ := z07 h
      refine adv (ok X) 5 [.e (z0g v5)] (pA (ixm z0g k9) pT) (by kernel_rfl) ?_
      rcases iteE h with ⟨k10, h⟩ | ⟨k10, h⟩
      ·obtain ⟨v6, k11, h⟩ := z07 h
       obtain rfl := retE h
       exact fin (ok X) 3 [.b true, .s (zfn v6) (zfo v6)] (pA k10 (pA (zkx (X := X) k11) pT)) (by kernel_rfl)
      ·obtain rfl := retE h
       exact fin (ok X) 3 [.b false] (pA k10 pT) (by kernel_rfl)
     ·obtain rfl := retE h
      exact fin (ok X) 1 [] pT (by kernel_rfl)
    ·obtain rfl := retE h
     exact fin (ok X) 5 [.b false] (pA k8 pT) (by kernel_rfl)
   ·cases h
   ·rcases iteE h with ⟨k12, h⟩ | ⟨k12, h⟩
    ·obtain rfl := retE h
     exact fin (ok X) 7 [.b true, .o [0, 1, 2, 3, 4, 5, 6]] (pA k12 pT) (by kernel_rfl)
    ·obtain rfl := retE h
     exact fin (ok X) 8 [.b false] (pA k12 pT) (by kernel_rfl)

theorem z1e {a0 : Int} {a1 : Int} {a2 : Int} {r : Bool} (h : z3l a0 a1 a2 = some r) : Cv Tryz.prog (GX X) 10 [xI a0, xI a1, xI a2] (z18 r) := by
 refine Cs.toV (?_ : Cs Tryz.prog (GX X) 10 [xI a0, xI a1, xI a2] [] (z18 r) (znx r)) (by kernel_rfl)
 refine fnT (cx := cx X) Tryz.f10 Tryz.call10 Tryz.func10 (by kernel_rfl) ?_
 unfold z3l at h
 rcases iteE h with ⟨k1, h⟩ | ⟨k1, h⟩
 ·obtain rfl := retE h
  exact fin (ok X) 5 (bT 4 []) (pR 4 k1 pT) (by kernel_rfl)
 ·obtain rfl := retE h
  exact fin (ok X) 5 (bF 4 []) (pR 4 k1 pT) (by kernel_rfl)

theorem zp7 {a0 : z0m} {r : Bool} (h : zew a0 = some r) : Cv Tryz.prog (GX X) 26 [.agg (bs (z04 a0))] (zea r) := by
 refine Cs.toV (?_ : Cs Tryz.prog (GX X) 26 [.agg (bs (z04 a0))] [] (zea r) (zkg r)) (by kernel_rfl)
 refine fnT (cx := cx X) Tryz.f26 Tryz.call26 Tryz.func26 (by kernel_rfl) ?_
 unfold zew at h
 refine adv (ok X) 7 [.i (a0.Rule.length : Int)] (pA (lm z82 a0.Rule) pT) (by kernel_rfl) ?_
 refine lp (ok X) (z9p a0) (fun (x1 : (Int × Int)) => ⟨60, 0, [(1, [xP 0 0]), (3, [xI x1.1]), (9, [xL (List.map z82 a0.Rule)]), (10, [xI (a0.Rule.length : Int)]), (11, [xI x1.2])], [oB 46 (bs (z04 a0))]⟩) (fun (j1 : Int) => ⟨60, 0, [(1, [xP 0 0]), (3, [xI j1])], [oB 46 (bs (z04 a0))]⟩) zgn (0, 0) (fun _ => ⟨_, _, _, _, rfl⟩) h (by kernel_rfl) (fun x1 o h => ?_) (fun r' h => ?_) (fun j1 h => ?_)
 ·unfold z9p at h
  rcases iteE h with ⟨k1, h⟩ | ⟨k1, h⟩
  ·obtain ⟨v1, k2, h⟩ := z07 h
   refine adv (ok X) 12 [.b true, .e [.sl (List.map zj6 v1)], .i (v1.length : Int)] (pA k1 (pA (ixm z82 k2) (pA (lm zj6 v1) pT))) (by kernel_rfl) ?_
   rcases iteE h with ⟨k3, h⟩ | ⟨k3, h⟩
   ·obtain rfl := retE h
    exact fin (ok X) 4 [.b true] (pA k3 pT) (by kernel_rfl)
   ·refine adv (ok X) 4 [.b false, .i (v1.length : Int)] (pA k3 (pA (lm zj6 v1) pT)) (by kernel_rfl) ?_
    refine lp (ok X) (z9o a0 v1 x1) (fun (x2 : (Int × Int)) => ⟨60, 0, [(1, [xP 0 0]), (3, [xI x2.1]), (4, [xI x1.2]), (9, [xL (List.map z82 a0.Rule)]), (10, [xI (a0.Rule.length : Int)]), (11, [xI x1.2]), (21, [xL (List.map zj6 v1)]), (22, [xI (v1.length : Int)]), (23, [xI x2.2])], [oB 46 (bs (z04 a0))]⟩) (fun (j2 : Int) => ⟨60, 0, [(1, [xP 0 0]), (3, [xI j2]), (9, [xL (List.map z82 a0.Rule)]), (10, [xI (a0.Rule.length : Int)]), (11, [xI x1.2])], [oB 46 (bs (z04 a0))]⟩) zgn (x1.1, 0) (fun _ => ⟨_, _, _, _, rfl⟩) h (by kernel_rfl) (fun x2 o h => ?_) (fun r' h => ?_) (fun j2 h => ?_)
    ·unfold z9o at h
     rcases iteE h with ⟨k4, h⟩ | ⟨k4, h⟩
     ·refine adv (ok X) 6 [.b true] (pA k4 pT) (by kernel_rfl) ?_
      refine jr (ok X) 1 (fun (j3 : Int) => ⟨60, 0, [(1, [xP 0 0]), (3, [xI j3]), (4, [xI x1.2]), (9, [xL (List.map z82 a0.Rule)]), (10, [xI (a0.Rule.length : Int)]), (11, [xI x1.2]), (21, [xL (List.map zj6 v1)]), (22, [xI (v1.length : Int)]), (23, [xI x2.2])], [oB 46 (bs (z04 a0))]⟩) zgn (fun _ => ⟨_, _, _, _, rfl⟩) h (fun o h => ?_) (fun r' h => ?_) (fun j3 h => ?_)
      ·obtain ⟨v2, k5, h⟩ := z07 h
       obtain ⟨v3, k6, h⟩ := z07 h
       refine adv (ok X) 6 [.e [.int .i64 v2], .i (a0.Rule.length : Int), .c (z18 v3)] (pA (ixm zj6 k5) (pA (lm z82 a0.Rule) (pA (z1e (X := X) k6) pT))) (by kernel_rfl) ?_
       rcases iteE h with ⟨k7, h⟩ | ⟨k7, h⟩
       ·obtain rfl := retE h
        exact fin (ok X) 4 [.b true] (pA k7 pT) (by kernel_rfl)
       ·refine adv (ok X) 4 [.b false] (pA k7 pT) (by kernel_rfl) ?_
        rcases iteE h with ⟨k8, h⟩ | ⟨k8, h⟩
        ·obtain rfl := retE h
         exact fin (ok X) 3 [.b true] (pA k8 pT) (by kernel_rfl)
        ·obtain rfl := retE h
         exact fin (ok X) 3 [.b false] (pA k8 pT) (by kernel_rfl)
      ·obtain rfl := retE h
       kernel_rfl
      ·obtain rfl := retE h
       exact fin (ok X) 1 [] pT (by kernel_rfl)
     ·obtain rfl := retE h
      exact fin (ok X) 5 [.b false] (pA k4 pT) (by kernel_rfl)
    ·obtain rfl := retE h
     kernel_rfl
    ·obtain rfl := retE h
     exact fin (ok X) 2 [] pT (by kernel_rfl)
  ·obtain rfl := retE h
   exact fin (ok X) 5 [.b false] (pA k1 pT) (by kernel_rfl)
 ·obtain rfl := retE h
  kernel_rfl
 ·rcases iteE h with ⟨k9, h⟩ | ⟨k9, h⟩
  ·obtain rfl := retE h
   exact fin (ok X) 3 (.i (a0.Rule.length : Int) :: bT 9 []) (pA (lm z82 a0.Rule) (pR 9 k9 pT)) (by kernel_rfl)
  ·rcases iteE h with ⟨k10, h⟩ | ⟨k10, h⟩
   ·obtain rfl := retE h
    exact fin (ok X) 3 (.i (a0.Rule.length : Int) :: bF 4 (.i (a0.Rule.length : Int) :: bF 3 (bT 3 [.i (a0.Rule.length : Int), .b true, .b false, .b true, .b false]))) (pA (lm z82 a0.Rule) (pR 4 k9 (pA (lm z82 a0.Rule) (pR 3 k9 (pR 3 k10 (pA (lm z82 a0.Rule) (pA k10 (pA k9 (pA k10 (pA k9 pT)))))))))) (by kernel_rfl)
   ·obtain rfl := retE h
    exact fin (ok X) 3 (.i (a0.Rule.length : Int) :: bF 4 (.i (a0.Rule.length : Int) :: bF 10 [])) (pA (lm z82 a0.Rule) (pR 4 k9 (pA (lm z82 a0.Rule) (pR 3 k9 (pR 4 k10 (pA k9 (pA k10 (pA k9 pT)))))))) (by kernel_rfl)

theorem znn {a0 : z0m} {a1 : Int} {r : Bool} (h : zcg a0 a1 = some r) : Cv Tryz.prog (GX X) 11 [.agg (bs (z04 a0)), xI a1] (zex r) := by
 refine Cs.toV (?_ : Cs Tryz.prog (GX X) 11 [.agg (bs (z04 a0)), xI a1] [] (zex r) (zne r)) (by kernel_rfl)
 refine fnT (cx := cx X) Tryz.f11 Tryz.call11 Tryz.func11 (by kernel_rfl) ?_
 unfold zcg at h
 refine adv (ok X) 3 [] pT (by kernel_rfl) ?_
 refine jn (ok X) 1 (fun (j1 : Bool) => ⟨45, 0, [(1, [xI a1]), (2, [xP 0 0]), (5, [xB j1])], [oB 46 (bs (z04 a0))]⟩) h (fun j1 h => ?_) (fun j1 h => ?_)
 ·obtain ⟨v1, k1, h⟩ := z07 h
  rcases iteE h with ⟨k2, h⟩ | ⟨k2, h⟩
  ·obtain ⟨v2, k3, h⟩ := z07 h
   rcases iteE h with ⟨k4, h⟩ | ⟨k4, h⟩
   ·obtain ⟨v3, k5, h⟩ := z07 h
    obtain rfl := retE h
    exact fin (ok X) 1 (.c (z18 v1) :: bT 3 (.c (z18 v2) :: bT 4 [.c (z18 v3), .b true])) (pA (z1e (X := X) k1) (pR 3 k2 (pA (z1e (X := X) k3) (pA k2 (pR 3 k4 (pA (z1e (X := X) k5) (pA k4 pT))))))) (by kernel_rfl)
   ·obtain rfl := retE h
    exact fin (ok X) 1 (.c (z18 v1) :: bT 3 (.c (z18 v2) :: .b true :: bF 4 [])) (pA (z1e (X := X) k1) (pR 3 k2 (pA (z1e (X := X) k3) (pA k2 (pR 4 k4 pT))))) (by kernel_rfl)
  ·obtain rfl := retE h
   exact fin (ok X) 1 (.c (z18 v1) :: bF 8 []) (pA (z1e (X := X) k1) (pR 4 k2 (pR 4 ff pT))) (by kernel_rfl)
 ·refine adv (ok X) 1 [] pT (by kernel_rfl) ?_
  refine jn (ok X) 1 (fun (j2 : Bool) => ⟨45, 0, [(4, [xB j2])], []⟩) h (fun j2 h => ?_) (fun j2 h => ?_)
  ·rcases iteE h with ⟨k6, h⟩ | ⟨k6, h⟩
   ·obtain ⟨v4, k7, h⟩ := z07 h
    rcases iteE h with ⟨k8, h⟩ | ⟨k8, h⟩
    ·obtain ⟨v5, k9, h⟩ := z07 h
     rcases iteE h with ⟨k10, h⟩ | ⟨k10, h⟩
     ·rcases iteE h with ⟨k11, h⟩ | ⟨k11, h⟩
      ·obtain ⟨v6, k12, h⟩ := z07 h
       obtain rfl := retE h
       exact fin (ok X) 1 (bT 5 (.c (z18 v4) :: bT 6 (.c (z18 v5) :: bT 9 [.c (zea v6), .b true]))) (pR 5 k6 (pA (z1e (X := X) k7) (pA k6 (pR 5 k8 (pA (z1e (X := X) k9) (pA k8 (pR 6 k10 (pA k11 (pA k11 (pA (zp7 (X := X) k12) (pA k11 pT))))))))))) (by kernel_rfl)
      ·obtain rfl := retE h
       exact fin (ok X) 1 (bT 5 (.c (z18 v4) :: bT 6 (.c (z18 v5) :: bT 7 (bF 3 [])))) (pR 5 k6 (pA (z1e (X := X) k7) (pA k6 (pR 5 k8 (pA (z1e (X := X) k9) (pA k8 (pR 6 k10 (pR 3 k11 pT)))))))) (by kernel_rfl)
     ·obtain rfl := retE h
      exact fin (ok X) 1 (bT 5 (.c (z18 v4) :: bT 6 (.c (z18 v5) :: .b true :: bF 9 []))) (pR 5 k6 (pA (z1e (X := X) k7) (pA k6 (pR 5 k8 (pA (z1e (X := X) k9) (pA k8 (pR 6 k10 (pR 3 ff pT)))))))) (by kernel_rfl)
    ·obtain rfl := retE h
     exact fin (ok X) 1 (bT 5 (.c (z18 v4) :: .b true :: bF 15 [])) (pR 5 k6 (pA (z1e (X := X) k7) (pA k6 (pR 6 k8 (pR 9 ff pT))))) (by kernel_rfl)
   ·obtain rfl := retE h
    exact fin (ok X) 1 (bF 21 []) (pR 6 k6 (pR 15 ff pT)) (by kernel_rfl)
  ·obtain rfl := retE h
   exact fin (ok X) 1 [] pT (by kernel_rfl)

theorem zfq {a0 : z0h} {r : Bool} (h : zcw a0 = some r) : Cv Tryz.prog (GX X) 45 [.agg (bs (z6e a0))] (zbw r) := by
 refine Cs.toV (?_ : Cs Tryz.prog (GX X) 45 [.agg (bs (z6e a0))] [] (zbw r) (zqm r)) (by kernel_rfl)
 refine fnT (cx := cx X) Tryz.f45 Tryz.call45 Tryz.func45 (by kernel_rfl) ?_
 unfold zcw at h
 rcases iteE h with ⟨k1, h⟩ | ⟨k1, h⟩
 ·rcases iteE h with ⟨k2, h⟩ | ⟨k2, h⟩
  ·rcases iteE h with ⟨k3, h⟩ | ⟨k3, h⟩
   ·obtain rfl := retE h
    exact fin (ok X) 5 (bT 11 [.i (a0.Kids.length : Int), .b true, .b true]) (pR 4 k1 (pR 4 k2 (pR 3 k3 (pA (lm z14 a0.Kids) (pA k3 (pA k3 pT)))))) (by kernel_rfl)
   ·obtain rfl := retE h
    exact fin (ok X) 5 (bT 8 (bF 5 [])) (pR 4 k1 (pR 4 k2 (pR 5 k3 pT))) (by kernel_rfl)
  ·obtain rfl := retE h
   exact fin (ok X) 5 (bT 4 (bF 9 [])) (pR 4 k1 (pR 4 k2 (pR 5 ff pT))) (by kernel_rfl)
 ·obtain rfl := retE h
  exact fin (ok X) 5 (bF 13 []) (pR 4 k1 (pR 9 ff pT)) (by kernel_rfl)

theorem zo4 {a0 : z4y} {r : Bool} (h : zdl a0 = some r) : Cv Tryz.prog (GX X) 46 [.agg (bs (zde a0))] (zfz r) := by
 refine Cs.toV (?_ : Cs Tryz.prog (GX X) 46 [.agg (bs (zde a0))] [] (zfz r) (zny r)) (by kernel_rfl)
 refine fnT (cx := cx X) Tryz.f46 Tryz.call46 Tryz.func46 (by kernel_rfl) ?_
 unfold zdl at h
 rcases iteE h with ⟨k1, h⟩ | ⟨k1, h⟩
 ·obtain ⟨v1, k2, h⟩ := z07 h
  rcases iteE h with ⟨k3, h⟩ | ⟨k3, h⟩
  ·obtain ⟨v2, k4, h⟩ := z07 h
   obtain rfl := retE h
   exact fin (ok X) 5 (bT 3 (.c (zbw v1) :: bT 4 [.c (zbw v2), .b true])) (pR 3 k1 (pA (zfq (X := X) k2) (pA k1 (pR 3 k3 (pA (zfq (X := X) k4) (pA k3 pT)))))) (by kernel_rfl)
  ·obtain rfl := retE h
   exact fin (ok X) 5 (bT 3 (.c (zbw v1) :: .b true :: bF 4 [])) (pR 3 k1 (pA (zfq (X := X) k2) (pA k1 (pR 4 k3 pT)))) (by kernel_rfl)
 ·obtain rfl := retE h
  exact fin (ok X) 5 (bF 8 []) (pR 4 k1 (pR 4 ff pT)) (by kernel_rfl)

theorem zqu {a0 : Int} {r : Int} (h : zga a0 = some r) : Cv Tryz.prog (GX X) 75 [xI a0] (zhj r) := by
 refine Cs.toV (?_ : Cs Tryz.prog (GX X) 75 [xI a0] [] (zhj r) (zqn r)) (by kernel_rfl)
 refine fnT (cx := cx X) Tryz.f75 Tryz.call75 Tryz.func75 (by kernel_rfl) ?_
 unfold zga at h
 refine adv (ok X) 5 [] pT (by kernel_rfl) ?_
 refine jn (ok X) 1 (fun (j1 : Bool) => ⟨16, 0, [(0, [xI a0]), (3, [xB j1])], []⟩) h (fun j1 h => ?_) (fun j1 h => ?_)
 ·rcases iteE h with ⟨k1, h⟩ | ⟨k1, h⟩
  ·obtain rfl := retE h
   exact fin (ok X) 1 (bT 3 []) (pR 3 k1 pT) (by kernel_rfl)
  ·obtain rfl := retE h
   exact fin (ok X) 1 (bF 3 []) (pR 3 k1 pT) (by kernel_rfl)
 ·rcases iteE h with ⟨k2, h⟩ | ⟨k2, h⟩
  ·obtain rfl := retE h
   exact fin (ok X) 4 [.b true] (pA k2 pT) (by kernel_rfl)
  ·refine adv (ok X) 3 [.b false] (pA k2 pT) (by kernel_rfl) ?_
   rcases iteE h with ⟨k3, h⟩ | ⟨k3, h⟩
   ·obtain rfl := retE h
    exact fin (ok X) 4 [.b true] (pA k3 pT) (by kernel_rfl)
   ·obtain ⟨v1, k4, h⟩ := z07 h
    refine adv (ok X) 3 [.b false, .c (z18 v1)] (pA k3 (pA (z1e (X := X) k4) pT)) (by kernel_rfl) ?_
    rcases iteE h with ⟨k5, h⟩ | ⟨k5, h⟩
    ·obtain rfl := retE h
     exact fin (ok X) 4 [.b true] (pA k5 pT) (by kernel_rfl)
    ·obtain rfl := retE h
     exact fin (ok X) 6 [.b false] (pA k5 pT) (by kernel_rfl)

theorem zqv {n : Nat} (ih_check_expr : ∀ (a0 : z0h) (a1 : Int) (r : Bool), z88 n a0 a1 = some r → Cv Tryz.prog (GX X) 47 [.agg (bs (z6e a0)), xI a1] (z6z r)) (a0 : z0h) (a1 : Int) (r : Bool) (h : z88 (n + 1) a0 a1 = some r) : Cv Tryz.prog (GX X) 47 [.agg (bs (z6e a0)), xI a1] (z6z r) := by
 refine Cs.toV (?_ : Cs Tryz.prog (GX X) 47 [.agg (bs (z6e a0)), xI a1] [] (z6z r) (zm1 r)) (by kernel_rfl)
 refine fnT (cx := cx X) Tryz.f47 Tryz.call47 Tryz.func47 (by kernel_rfl) ?_
 rw [z88] at h
 obtain ⟨v1, k1, h⟩ := z07 h
 refine adv (ok X) 5 [.o [0, 1, 2, 3, 4, 5, 6], .i (a0.Kids.length : Int), .c (zhj v1)] (pA (lm z14 a0.Kids) (pA (zqu (X := X) k1) pT)) (by kernel_rfl) ?_
 rcases iteE h with ⟨k2, h⟩ | ⟨k2, h⟩
 ·obtain rfl := retE h
  exact fin (ok X) 4 [.b true] (pA k2 pT) (by kernel_rfl)
 ·refine adv (ok X) 4 [.b false] (pA k2 pT) (by kernel_rfl) ?_
  refine jn (ok X) 1 (fun (j1 : Bool) => ⟨60, 0, [(1, [xI a1]), (2, [xP 0 0]), (44, [xB j1])], [oB 91 (bs (z6e a0))]⟩) h (fun j1 h => ?_) (fun j1 h => ?_)
  ·rcases iteE h with ⟨k3, h⟩ | ⟨k3, h⟩
   ·rcases iteE h with ⟨k4, h⟩ | ⟨k4, h⟩
    ·obtain rfl := retE h
     exact fin (ok X) 1 (bT 16 []) (pR 4 k3 (pR 6 k4 (pR 6 tt pT))) (by kernel_rfl)
    ·rcases iteE h with ⟨k5, h⟩ | ⟨k5, h⟩
     ·rcases iteE h with ⟨k6, h⟩ | ⟨k6, h⟩
      ·obtain rfl := retE h
       exact fin (ok X) 1 (bT 4 (bF 4 (bT 3 (.b false :: .b true :: .b false :: bT 6 [])))) (pR 4 k3 (pR 4 k4 (pR 3 k5 (pA k4 (pA k5 (pA k4 (pR 6 k6 pT))))))) (by kernel_rfl)
      ·rcases iteE h with ⟨k7, h⟩ | ⟨k7, h⟩
       ·obtain ⟨v2, k8, h⟩ := z07 h
        obtain rfl := retE h
        exact fin (ok X) 1 (bT 4 (bF 4 (bT 3 (.b false :: .b true :: bF 5 (bT 5 [.c (z18 v2), .b true, .b false, .b true, .b false]))))) (pR 4 k3 (pR 4 k4 (pR 3 k5 (pA k4 (pA k5 (pA k4 (pR 4 k6 (pR 5 k7 (pA (z1e (X := X) k8) (pA k7 (pA k6 (pA k7 (pA k6 pT))))))))))))) (by kernel_rfl)
       ·obtain rfl := retE h
        exact fin (ok X) 1 (bT 4 (bF 4 (bT 3 (.b false :: .b true :: bF 14 [])))) (pR 4 k3 (pR 4 k4 (pR 3 k5 (pA k4 (pA k5 (pA k4 (pR 4 k6 (pR 6 k7 (pA k6 (pA k7 (pA k6 pT))))))))))) (by kernel_rfl)
     ·rcases iteE h with ⟨k9, h⟩ | ⟨k9, h⟩
      ·obtain ⟨v3, k10, h⟩ := z07 h
       obtain rfl := retE h
       exact fin (ok X) 1 (bT 4 (bF 14 (bT 5 [.c (z18 v3), .b true, .b false, .b true, .b false]))) (pR 4 k3 (pR 4 k4 (pR 3 k5 (pA k4 (pA k5 (pA k4 (pR 4 ff (pR 5 k9 (pA (z1e (X := X) k10) (pA k9 (pA ff (pA k9 (pA ff pT))))))))))))) (by kernel_rfl)
      ·obtain rfl := retE h
       exact fin (ok X) 1 (bT 4 (bF 23 [])) (pR 4 k3 (pR 4 k4 (pR 3 k5 (pA k4 (pA k5 (pA k4 (pR 4 ff (pR 6 k9 (pA ff (pA k9 (pA ff pT))))))))))) (by kernel_rfl)
   ·rcases iteE h with ⟨k11, h⟩ | ⟨k11, h⟩
    ·rcases iteE h with ⟨k12, h⟩ | ⟨k12, h⟩
     ·obtain rfl := retE h
      exact fin (ok X) 1 (bF 8 (bT 3 (.b false :: .b true :: .b false :: bT 6 []))) (pR 4 k3 (pR 4 ff (pR 3 k11 (pA ff (pA k11 (pA ff (pR 6 k12 pT))))))) (by kernel_rfl)
     ·rcases iteE h with ⟨k13, h⟩ | ⟨k13, h⟩
      ·obtain ⟨v4, k14, h⟩ := z07 h
       obtain rfl := retE h
       exact fin (ok X) 1 (bF 8 (bT 3 (.b false :: .b true :: bF 5 (bT 5 [.c (z18 v4), .b true, .b false, .b true, .b false])))) (pR 4 k3 (pR 4 ff (pR 3 k11 (pA ff (pA k11 (pA ff (pR 4 k12 (pR 5 k13 (pA (z1e (X := X) k14) (pA k13 (pA k12 (pA k13 (pA k12 pT))))))))))))) (by kernel_rfl)
      ·obtain rfl := retE h
       exact fin (ok X) 1 (bF 8 (bT 3 (.b false :: .b true :: bF 14 []))) (pR 4 k3 (pR 4 ff (pR 3 k11 (pA ff (pA k11 (pA ff (pR 4 k12 (pR 6 k13 (pA k12 (pA k13 (pA k12 pT))))))))))) (by kernel_rfl)
    ·rcases iteE h with ⟨k15, h⟩ | ⟨k15, h⟩
     ·obtain ⟨v5, k16, h⟩ := z07 h
      obtain rfl := retE h
      exact fin (ok X) 1 (bF 18 (bT 5 [.c (z18 v5), .b true, .b false, .b true, .b false])) (pR 4 k3 (pR 4 ff (pR 3 k11 (pA ff (pA k11 (pR 5 ff (pR 5 k15 (pA (z1e (X := X) k16) (pA k15 (pA ff (pA k15 (pA ff pT)))))))))))) (by kernel_rfl)
     ·obtain rfl := retE h
      exact fin (ok X) 1 (bF 27 []) (pR 4 k3 (pR 4 ff (pR 3 k11 (pA ff (pA k11 (pR 5 ff (pR 6 k15 (pA ff (pA k15 (pA ff pT)))))))))) (by kernel_rfl)
  ·rcases iteE h with ⟨k17, h⟩ | ⟨k17, h⟩
   ·obtain rfl := retE h
    exact fin (ok X) 4 [.b true] (pA k17 pT) (by kernel_rfl)
   ·refine adv (ok X) 5 [.b false, .i (a0.Kids.length : Int)] (pA k17 (pA (lm z14 a0.Kids) pT)) (by kernel_rfl) ?_
    refine lp (ok X) (zap (z88 n) a0 a1) (fun (x2 : Int) => ⟨60, 0, [(1, [xI a1]), (2, [xP 0 0]), (46, [xL (List.map z14 a0.Kids)]), (47, [xI (a0.Kids.length : Int)]), (48, [xI x2])], [oB 91 (bs (z6e a0))]⟩) (fun (j2 : Unit) => ⟨60, 0, [(2, [xP 0 0])], [oB 91 (bs (z6e a0))]⟩) zqo 0 (fun _ => ⟨_, _, _, _, rfl⟩) h (by kernel_rfl) (fun x2 o h => ?_) (fun r' h => ?_) (fun j2 h => ?_)
    ·unfold zap at h
     rcases iteE h with ⟨k18, h⟩ | ⟨k18, h⟩
     ·obtain ⟨v6, k19, h⟩ := z07 h
      obtain ⟨v7, k20, h⟩ := z07 h
      refine adv (ok X) 11 [.b true, .e (z6e v6), .c (z6z v7)] (pA k18 (pA (ixr z90 k19) (pA (ih_check_expr _ _ _ k20) pT))) (by kernel_rfl) ?_
      rcases iteE h with ⟨k21, h⟩ | ⟨k21, h⟩
      ·obtain rfl := retE h
       exact fin (ok X) 4 [.b true] (pA k21 pT) (by kernel_rfl)
      ·obtain rfl := retE h
       exact fin (ok X) 4 [.b false] (pA k21 pT) (by kernel_rfl)
     ·obtain rfl := retE h
      exact fin (ok X) 5 [.b false] (pA k18 pT) (by kernel_rfl)
    ·obtain rfl := retE h
     kernel_rfl
    ·obtain ⟨v8, k22, h⟩ := z07 h
     obtain rfl := retE h
     exact fin (ok X) 3 [.c (z18 v8)] (pA (z1e (X := X) k22) pT) (by kernel_rfl)

theorem ziu : ∀ n : Nat, (∀ (a0 : z0h) (a1 : Int) (r : Bool), z88 n a0 a1 = some r → Cv Tryz.prog (GX X) 47 [.agg (bs (z6e a0)), xI a1] (z6z r))
 | 0 => (fun _ _ _ h => by rw [z88] at h; cases h)
 | n + 1 => by
  have ih := ziu n
  exact zqv ih

theorem zdr {a0 : z0h} {a1 : Int} {r : Bool} (h : zei a0 a1 = some r) : Cv Tryz.prog (GX X) 47 [.agg (bs (z6e a0)), xI a1] (z6z r) := by
 obtain ⟨n, hn⟩ := unfE h
 exact (ziu n) _ _ _ hn

theorem zc5 {a0 : z4y} {a1 : Int} {r : Bool} (h : zcx a0 a1 = some r) : Cv Tryz.prog (GX X) 48 [.agg (bs (zde a0)), xI a1] (z99 r) := by
 refine Cs.toV (?_ : Cs Tryz.prog (GX X) 48 [.agg (bs (zde a0)), xI a1] [] (z99 r) (zqp r)) (by kernel_rfl)
 refine fnT (cx := cx X) Tryz.f48 Tryz.call48 Tryz.func48 (by kernel_rfl) ?_
 unfold zcx at h
 obtain ⟨v1, k1, h⟩ := z07 h
 rcases iteE h with ⟨k2, h⟩ | ⟨k2, h⟩
 ·obtain ⟨v2, k3, h⟩ := z07 h
  rcases iteE h with ⟨k4, h⟩ | ⟨k4, h⟩
  ·obtain ⟨v3, k5, h⟩ := z07 h
   obtain rfl := retE h
   exact fin (ok X) 5 (.c (z18 v1) :: bT 4 (.c (z6z v2) :: bT 5 [.c (z6z v3), .b true])) (pA (z1e (X := X) k1) (pR 4 k2 (pA (zdr (X := X) k3) (pA k2 (pR 4 k4 (pA (zdr (X := X) k5) (pA k4 pT))))))) (by kernel_rfl)
  ·obtain rfl := retE h
   exact fin (ok X) 5 (.c (z18 v1) :: bT 4 (.c (z6z v2) :: .b true :: bF 5 [])) (pA (z1e (X := X) k1) (pR 4 k2 (pA (zdr (X := X) k3) (pA k2 (pR 5 k4 pT))))) (by kernel_rfl)
 ·obtain rfl := retE h
  exact fin (ok X) 5 (.c (z18 v1) :: bF 10 []) (pA (z1e (X := X) k1) (pR 5 k2 (pR 5 ff pT))) (by kernel_rfl)

theorem z7r {a0 : z1q} {a1 : Int} {r : Bool} (h : z5t a0 a1 = some r) : Cv Tryz.prog (GX X) 49 [.agg (bs (z1t a0)), xI a1, .fn (.func 50) [] []] (z5c r) := by
 refine Cs.toV (?_ : Cs Tryz.prog (GX X) 49 [.agg (bs (z1t a0)), xI a1, .fn (.func 50) [] []] [] (z5c r) (zdw r)) (by kernel_rfl)
 refine fnT (cx := cx X) Tryz.f49 Tryz.call49 Tryz.func49 (by kernel_rfl) ?_
 unfold z5t at h
 obtain ⟨v1, k1, h⟩ := z07 h
 rcases iteE h with ⟨k2, h⟩ | ⟨k2, h⟩
 ·obtain ⟨v2, k3, h⟩ := z07 h
  obtain ⟨v3, k4, h⟩ := z07 h
  obtain rfl := retE h
  exact fin (ok X) 5 (.o [0, 1, 2, 3, 4, 5, 6, 7, 8, 9, 10, 11, 12, 13, 14, 15, 16, 17, 18, 19, 20] :: .i (a0.f_p.Chans.length : Int) :: .c (z18 v1) :: bT 6 (.e (z04 v2) :: .b true :: .b true :: .c (zfk v3) :: bT 4 [])) (pA (lm z04 a0.f_p.Chans) (pA (z1e (X := X) k1) (pR 6 k2 (pA (ixm z04 k3) (pA k2 (pA k2 (pA (zm2 (X := X) k4) (pR 4 k2 pT)))))))) (by kernel_rfl)
 ·obtain rfl := retE h
  exact fin (ok X) 5 (.o [0, 1, 2, 3, 4, 5, 6, 7, 8, 9, 10, 11, 12, 13, 14, 15, 16, 17, 18, 19, 20] :: .i (a0.f_p.Chans.length : Int) :: .c (z18 v1) :: bF 12 []) (pA (lm z04 a0.f_p.Chans) (pA (z1e (X := X) k1) (pR 12 k2 pT))) (by kernel_rfl)

theorem z7o {a0 : z1q} {a1 : Int} {a2 : Int} {r : Bool} (h : z8i a0 a1 a2 = some r) : Cv Tryz.prog (GX X) 51 [.agg (bs (z1t a0)), xI a1, xI a2] (z62 r) := by
 refine Cs.toV (?_ : Cs Tryz.prog (GX X) 51 [.agg (bs (z1t a0)), xI a1, xI a2] [] (z62 r) (zkh r)) (by kernel_rfl)
 refine fnT (cx := cx X) Tryz.f51 Tryz.call51 Tryz.func51 (by kernel_rfl) ?_
 unfold z8i at h
 obtain ⟨v1, k1, h⟩ := z07 h
 obtain ⟨v2, k2, h⟩ := z07 h
 obtain rfl := retE h
 exact fin (ok X) 5 [.e (z04 v1), .c (z18 v2)] (pA (ixm z04 k1) (pA (z1e (X := X) k2) pT)) (by kernel_rfl)

theorem zad {a0 : z1q} {a1 : Int} {r : Bool} (h : z64 a0 a1 = some r) : Cv Tryz.prog (GX X) 49 [.agg (bs (z1t a0)), xI a1, .fn (.func 52) [] []] (z6t r) := by
 refine Cs.toV (?_ : Cs Tryz.prog (GX X) 49 [.agg (bs (z1t a0)), xI a1, .fn (.func 52) [] []] [] (z6t r) (zey r)) (by kernel_rfl)
 refine fnT (cx := cx X) Tryz.f49 Tryz.call49 Tryz.func49 (by kernel_rfl) ?_
 unfold z64 at h
 obtain ⟨v1, k1, h⟩ := z07 h
 rcases iteE h with ⟨k2, h⟩ | ⟨k2, h⟩
 ·obtain ⟨v2, k3, h⟩ := z07 h
  obtain ⟨v3, k4, h⟩ := z07 h
  obtain rfl := retE h
  exact fin (ok X) 5 (.o [0, 1, 2, 3, 4, 5, 6, 7, 8, 9, 10, 11, 12, 13, 14, 15, 16, 17, 18, 19, 20] :: .i (a0.f_p.Chans.length : Int) :: .c (z18 v1) :: bT 6 (.e (z04 v2) :: .b true :: .b true :: .c (zi6 v3) :: bT 4 [])) (pA (lm z04 a0.f_p.Chans) (pA (z1e (X := X) k1) (pR 6 k2 (pA (ixm z04 k3) (pA k2 (pA k2 (pA (zol (X := X) k4) (pR 4 k2 pT)))))))) (by kernel_rfl)
 ·obtain rfl := retE h
  exact fin (ok X) 5 (.o [0, 1, 2, 3, 4, 5, 6, 7, 8, 9, 10, 11, 12, 13, 14, 15, 16, 17, 18, 19, 20] :: .i (a0.f_p.Chans.length : Int) :: .c (z18 v1) :: bF 12 []) (pA (lm z04 a0.f_p.Chans) (pA (z1e (X := X) k1) (pR 12 k2 pT))) (by kernel_rfl)

theorem zip {n : Nat} (ih_check_looker_stmts : ∀ (a0 : z1q) (a1 : (List z09)) (r : Bool), z1p n a0 a1 = some r → Cv Tryz.prog (GX X) 12 [.agg (bs (z1t a0)), xL (List.map z1g a1)] (z2z r)) (ih_check_looker_stmt : ∀ (a0 : z1q) (a1 : z09) (r : Bool), z39 n a0 a1 = some r → Cv Tryz.prog (GX X) 27 [.agg (bs (z1t a0)), .agg (bs (z7d a1))] (z69 r)) (ih_check_looker_arms : ∀ (a0 : z1q) (a1 : Int) (a2 : (List z2i)) (r : Bool), z3a n a0 a1 a2 = some r → Cv Tryz.prog (GX X) 53 [.agg (bs (z1t a0)), xI a1, xL (List.map z2o a2)] (z5u r)) (a0 : z1q) (a1 : (List z09)) (r : Bool) (h : z1p (n + 1) a0 a1 = some r) : Cv Tryz.prog (GX X) 12 [.agg (bs (z1t a0)), xL (List.map z1g a1)] (z2z r) := by
 refine Cs.toV (?_ : Cs Tryz.prog (GX X) 12 [.agg (bs (z1t a0)), xL (List.map z1g a1)] [] (z2z r) (ze0 r)) (by kernel_rfl)
 refine fnT (cx := cx X) Tryz.f12 Tryz.call12 Tryz.func12 (by kernel_rfl) ?_
 rw [z1p] at h
 refine adv (ok X) 5 [.i (a1.length : Int)] (pA (lm z1g a1) pT) (by kernel_rfl) ?_
 refine lp (ok X) (z6i (z1p n) (z39 n) (z3a n) a0 a1) (fun (x1 : Int) => ⟨18, 0, [(2, [xP 0 0]), (7, [xL (List.map z1g a1)]), (8, [xI (a1.length : Int)]), (9, [xI x1])], [oB 53 (bs (z1t a0))]⟩) (fun (j1 : Unit) => ⟨18, 0, [], []⟩) zij 0 (fun _ => ⟨_, _, _, _, rfl⟩) h (by kernel_rfl) (fun x1 o h => ?_) (fun r' h => ?_) (fun j1 h => ?_)
 ·unfold z6i at h
  rcases iteE h with ⟨k1, h⟩ | ⟨k1, h⟩
  ·obtain ⟨v1, k2, h⟩ := z07 h
   obtain ⟨v2, k3, h⟩ := z07 h
   refine adv (ok X) 11 [.b true, .e (z7d v1), .c (z69 v2)] (pA k1 (pA (ixr zcb k2) (pA (ih_check_looker_stmt _ _ _ k3) pT))) (by kernel_rfl) ?_
   rcases iteE h with ⟨k4, h⟩ | ⟨k4, h⟩
   ·obtain rfl := retE h
    exact fin (ok X) 4 [.b true] (pA k4 pT) (by kernel_rfl)
   ·obtain rfl := retE h
    exact fin (ok X) 4 [.b false] (pA k4 pT) (by kernel_rfl)
  ·obtain rfl := retE h
   exact fin (ok X) 5 [.b false] (pA k1 pT) (by kernel_rfl)
 ·obtain rfl := retE h
  kernel_rfl
 ·obtain rfl := retE h
  exact fin (ok X) 3 [] pT (by kernel_rfl)
end Go.Proofs.YtgmbfjcidiedfaaGreatDoor.Abs

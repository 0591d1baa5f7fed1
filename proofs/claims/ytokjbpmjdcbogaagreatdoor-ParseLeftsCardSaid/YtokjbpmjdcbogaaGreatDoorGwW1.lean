/- Gw: the functions are these. -/
import Derived.Test.YtokjbpmjdcbogaaGreatDoorGwW0
namespace Go.Proofs.YtokjbpmjdcbogaaGreatDoor.Abs
open Go Go.RowKit
set_option linter.unusedVariables false
set_option maxRecDepth 100000
set_option maxHeartbeats 4000000
variable {X : EV}
theorem z7e {r : Bool} (h : z8j = some r) : Cv Tryz.prog (GX X) 11 [] (z5i r) := by
 refine Cs.toV (?_ : Cs Tryz.prog (GX X) 11 [] [] (z5i r) (zhp r)) (by kernel_rfl)
 refine fnT (cx := cx X) Tryz.f11 Tryz.call11 Tryz.func11 (by kernel_rfl) ?_
 unfold z8j at h
 obtain ⟨v1, k1, h⟩ := z0b h
 obtain ⟨v2, k2, h⟩ := z0b h
 refine adv (ok X) 7 [.c (z5l v1), .c (z5l v2)] (pA (z8e (X := X) k1) (pA (z8e (X := X) k2) pT)) (by kernel_rfl) ?_
 refine jn (ok X) 1 (fun (j1 : Bool) => ⟨82, 0, [(0, [xB j1])], []⟩) h (fun j1 h => ?_) (fun j1 h => ?_)
 ·rcases iteE h with ⟨k3, h⟩ | ⟨k3, h⟩
  ·rcases iteE h with ⟨k4, h⟩ | ⟨k4, h⟩
   ·obtain ⟨v3, k5, h⟩ := z0b h
    rcases iteE h with ⟨k6, h⟩ | ⟨k6, h⟩
    ·obtain ⟨v4, k7, h⟩ := z0b h
     obtain ⟨v5, k8, h⟩ := z0b h
     rcases iteE h with ⟨k9, h⟩ | ⟨k9, h⟩
     ·obtain ⟨v6, k10, h⟩ := z0b h
      obtain ⟨v7, k11, h⟩ := z0b h
      rcases iteE h with ⟨k12, h⟩ | ⟨k12, h⟩
      ·obtain ⟨v8, k13, h⟩ := z0b h
       obtain ⟨v9, k14, h⟩ := z0b h
       obtain ⟨v10, k15, h⟩ := z0b h
       rcases iteE h with ⟨k16, h⟩ | ⟨k16, h⟩
       ·rcases iteE h with ⟨k17, h⟩ | ⟨k17, h⟩
        ·obtain rfl := retE h
         exact fin (ok X) 1 (bT 3 (.i (v1.1.Procs.length : Int) :: bT 5 (.e (z0j v3) :: bT 3 (.i (v3.Body.length : Int) :: bT 5 (.e (z0j v4) :: bT 3 (.e (z1m v5) :: bT 8 (.e (z0j v6) :: bT 3 (.e (z1m v7) :: bT 4 (.i (v7.E.Kids.length : Int) :: bT 5 (.e (z0j v8) :: bT 3 (.e (z1m v9) :: bT 4 (.e (z25 v10) :: bT 10 [])))))))))))) (pR 3 k3 (pA (lm z0j v1.1.Procs) (pA k3 (pA k3 (pR 3 k4 (pA (ixm z0j k5) (pR 3 k4 (pA (lm z0s v3.Body) (pA k4 (pA k4 (pR 3 k6 (pA (ixm z0j k7) (pR 3 k6 (pA (ixr z2r k8) (pR 5 k6 (pR 3 k9 (pA (ixm z0j k10) (pR 3 k9 (pA (ixr z2r k11) (pR 4 k9 (pA (lm z0q v7.E.Kids) (pA k9 (pA k9 (pR 3 k12 (pA (ixm z0j k13) (pR 3 k12 (pA (ixr z2r k14) (pR 4 k12 (pA (ixr z3r k15) (pR 4 k12 (pR 3 k16 (pR 3 k17 pT)))))))))))))))))))))))))))))))) (by kernel_rfl)
        ·obtain rfl := retE h
         exact fin (ok X) 1 (bT 3 (.i (v1.1.Procs.length : Int) :: bT 5 (.e (z0j v3) :: bT 3 (.i (v3.Body.length : Int) :: bT 5 (.e (z0j v4) :: bT 3 (.e (z1m v5) :: bT 8 (.e (z0j v6) :: bT 3 (.e (z1m v7) :: bT 4 (.i (v7.E.Kids.length : Int) :: bT 5 (.e (z0j v8) :: bT 3 (.e (z1m v9) :: bT 4 (.e (z25 v10) :: bT 7 (bF 3 []))))))))))))) (pR 3 k3 (pA (lm z0j v1.1.Procs) (pA k3 (pA k3 (pR 3 k4 (pA (ixm z0j k5) (pR 3 k4 (pA (lm z0s v3.Body) (pA k4 (pA k4 (pR 3 k6 (pA (ixm z0j k7) (pR 3 k6 (pA (ixr z2r k8) (pR 5 k6 (pR 3 k9 (pA (ixm z0j k10) (pR 3 k9 (pA (ixr z2r k11) (pR 4 k9 (pA (lm z0q v7.E.Kids) (pA k9 (pA k9 (pR 3 k12 (pA (ixm z0j k13) (pR 3 k12 (pA (ixr z2r k14) (pR 4 k12 (pA (ixr z3r k15) (pR 4 k12 (pR 3 k16 (pR 3 k17 pT)))))))))))))))))))))))))))))))) (by kernel_rfl)
       ·obtain rfl := retE h
        exact fin (ok X) 1 (bT 3 (.i (v1.1.Procs.length : Int) :: bT 5 (.e (z0j v3) :: bT 3 (.i (v3.Body.length : Int) :: bT 5 (.e (z0j v4) :: bT 3 (.e (z1m v5) :: bT 8 (.e (z0j v6) :: bT 3 (.e (z1m v7) :: bT 4 (.i (v7.E.Kids.length : Int) :: bT 5 (.e (z0j v8) :: bT 3 (.e (z1m v9) :: bT 4 (.e (z25 v10) :: bT 4 (bF 6 []))))))))))))) (pR 3 k3 (pA (lm z0j v1.1.Procs) (pA k3 (pA k3 (pR 3 k4 (pA (ixm z0j k5) (pR 3 k4 (pA (lm z0s v3.Body) (pA k4 (pA k4 (pR 3 k6 (pA (ixm z0j k7) (pR 3 k6 (pA (ixr z2r k8) (pR 5 k6 (pR 3 k9 (pA (ixm z0j k10) (pR 3 k9 (pA (ixr z2r k11) (pR 4 k9 (pA (lm z0q v7.E.Kids) (pA k9 (pA k9 (pR 3 k12 (pA (ixm z0j k13) (pR 3 k12 (pA (ixr z2r k14) (pR 4 k12 (pA (ixr z3r k15) (pR 4 k12 (pR 3 k16 (pR 3 ff pT)))))))))))))))))))))))))))))))) (by kernel_rfl)
      ·obtain rfl := retE h
       exact fin (ok X) 1 (bT 3 (.i (v1.1.Procs.length : Int) :: bT 5 (.e (z0j v3) :: bT 3 (.i (v3.Body.length : Int) :: bT 5 (.e (z0j v4) :: bT 3 (.e (z1m v5) :: bT 8 (.e (z0j v6) :: bT 3 (.e (z1m v7) :: bT 4 (.i (v7.E.Kids.length : Int) :: .b true :: .b true :: bF 20 []))))))))) (pR 3 k3 (pA (lm z0j v1.1.Procs) (pA k3 (pA k3 (pR 3 k4 (pA (ixm z0j k5) (pR 3 k4 (pA (lm z0s v3.Body) (pA k4 (pA k4 (pR 3 k6 (pA (ixm z0j k7) (pR 3 k6 (pA (ixr z2r k8) (pR 5 k6 (pR 3 k9 (pA (ixm z0j k10) (pR 3 k9 (pA (ixr z2r k11) (pR 4 k9 (pA (lm z0q v7.E.Kids) (pA k9 (pA k9 (pR 14 k12 (pR 6 ff pT))))))))))))))))))))))))) (by kernel_rfl)
     ·obtain rfl := retE h
      exact fin (ok X) 1 (bT 3 (.i (v1.1.Procs.length : Int) :: bT 5 (.e (z0j v3) :: bT 3 (.i (v3.Body.length : Int) :: bT 5 (.e (z0j v4) :: bT 3 (.e (z1m v5) :: bT 5 (bF 32 []))))))) (pR 3 k3 (pA (lm z0j v1.1.Procs) (pA k3 (pA k3 (pR 3 k4 (pA (ixm z0j k5) (pR 3 k4 (pA (lm z0s v3.Body) (pA k4 (pA k4 (pR 3 k6 (pA (ixm z0j k7) (pR 3 k6 (pA (ixr z2r k8) (pR 5 k6 (pR 12 k9 (pR 20 ff pT))))))))))))))))) (by kernel_rfl)
    ·obtain rfl := retE h
     exact fin (ok X) 1 (bT 3 (.i (v1.1.Procs.length : Int) :: bT 5 (.e (z0j v3) :: bT 3 (.i (v3.Body.length : Int) :: .b true :: .b true :: bF 43 [])))) (pR 3 k3 (pA (lm z0j v1.1.Procs) (pA k3 (pA k3 (pR 3 k4 (pA (ixm z0j k5) (pR 3 k4 (pA (lm z0s v3.Body) (pA k4 (pA k4 (pR 11 k6 (pR 32 ff pT)))))))))))) (by kernel_rfl)
   ·obtain rfl := retE h
    exact fin (ok X) 1 (bT 3 (.i (v1.1.Procs.length : Int) :: .b true :: .b true :: bF 51 [])) (pR 3 k3 (pA (lm z0j v1.1.Procs) (pA k3 (pA k3 (pR 8 k4 (pR 43 ff pT)))))) (by kernel_rfl)
  ·obtain rfl := retE h
   exact fin (ok X) 1 (bF 56 []) (pR 5 k3 (pR 51 ff pT)) (by kernel_rfl)
 ·obtain rfl := retE h
  exact fin (ok X) 1 [] pT (by kernel_rfl)

theorem zmf {n : Nat} (ih_l02_Expr : ∀ (a0 : z05) (r : z03), z6m n a0 = some r → Cv Tryz.prog (GX X) 73 [.agg (bs (z4g a0))] (z5o r)) (a0 : z05) (r : z03) (h : z6m (n + 1) a0 = some r) : Cv Tryz.prog (GX X) 73 [.agg (bs (z4g a0))] (z5o r) := by
 refine Cs.toV (?_ : Cs Tryz.prog (GX X) 73 [.agg (bs (z4g a0))] [] (z5o r) (zfq r)) (by kernel_rfl)
 refine fnT (cx := cx X) Tryz.f73 Tryz.call73 Tryz.func73 (by kernel_rfl) ?_
 rw [z6m] at h
 refine adv (ok X) 7 [] pT (by kernel_rfl) ?_
 refine lp (ok X) (z7q (z6m n) a0) (fun (x1 : (Int × (List z03))) => ⟨29, 0, [(1, [xP 0 0]), (2, [xP 1 0]), (3, [xR 2]), (4, [xI x1.1])], [oB 43 (bs (z4g a0)), oB 103 [.pv (.int .i64 0), .pv (.int .i64 0), .pv (.str (ByteArray.mk #[])), .emp], oR true 103 4 (List.map z0q x1.2)]⟩) (fun (j1 : (List z03)) => ⟨29, 0, [(1, [xP 0 0]), (2, [xP 1 0]), (3, [xR 2])], [oB 43 (bs (z4g a0)), oB 103 [.pv (.int .i64 0), .pv (.int .i64 0), .pv (.str (ByteArray.mk #[])), .emp], oR true 103 4 (List.map z0q j1)]⟩) zm9 (0, []) (fun _ => ⟨_, _, _, _, rfl⟩) h (by kernel_rfl) (fun x1 o h => ?_) (fun r' h => ?_) (fun j1 h => ?_)
 ·unfold z7q at h
  refine adv (ok X) 3 [.i (a0.Kids.length : Int)] (pA (lm z1f a0.Kids) pT) (by kernel_rfl) ?_
  rcases iteE h with ⟨k1, h⟩ | ⟨k1, h⟩
  ·obtain ⟨v1, k2, h⟩ := z0b h
   obtain ⟨v2, k3, h⟩ := z0b h
   obtain ⟨v3, k4, h⟩ := z0b h
   obtain rfl := retE h
   exact fin (ok X) 7 [.b true, .e (z4g v1), .c (z5o v2), .bl (List.map z0q [v2]), .l (List.map z0q v3)] (pA k1 (pA (ixr z40 k2) (pA (ih_l02_Expr _ _ k3) (pA (blc (e := z0q) (x := v2) (z3r _).symm (bl0 z0q)) (pA (apm (L := x1.2) (M := [v2]) zf3 k4) pT))))) (by kernel_rfl)
  ·obtain rfl := retE h
   exact fin (ok X) 2 [.b false] (pA k1 pT) (by kernel_rfl)
 ·cases h
 ·obtain rfl := retE h
  exact fin (ok X) 3 [] pT (by kernel_rfl)

theorem zdq : ∀ n : Nat, (∀ (a0 : z05) (r : z03), z6m n a0 = some r → Cv Tryz.prog (GX X) 73 [.agg (bs (z4g a0))] (z5o r))
 | 0 => (fun _ _ h => by rw [z6m] at h; cases h)
 | n + 1 => by
  have ih := zdq n
  exact zmf ih

theorem zdh {a0 : z05} {r : z03} (h : zcs a0 = some r) : Cv Tryz.prog (GX X) 73 [.agg (bs (z4g a0))] (z5o r) := by
 obtain ⟨n, hn⟩ := unfE h
 exact (zdq n) _ _ hn

theorem zmg {a0 : z4f} {r : z33} (h : zct a0 = some r) : Cv Tryz.prog (GX X) 74 [.agg (bs (zfo a0))] (zdg r) := by
 refine Cs.toV (?_ : Cs Tryz.prog (GX X) 74 [.agg (bs (zfo a0))] [] (zdg r) (zma r)) (by kernel_rfl)
 refine fnT (cx := cx X) Tryz.f74 Tryz.call74 Tryz.func74 (by kernel_rfl) ?_
 unfold zct at h
 obtain ⟨v1, k1, h⟩ := z0b h
 obtain ⟨v2, k2, h⟩ := z0b h
 obtain rfl := retE h
 exact fin (ok X) 5 [.o [0, 1, 2, 3, 4, 5, 6, 7, 8, 9], .c (z5o v1), .c (z5o v2)] (pA (zdh (X := X) k1) (pA (zdh (X := X) k2) pT)) (by kernel_rfl)

theorem zj4 {n : Nat} (ih_l02_Stmts : ∀ (a0 : (List z0k)) (r : (List z02)), z54 n a0 = some r → Cv Tryz.prog (GX X) 43 [xL (List.map z2o a0)] (z5c r)) (a0 : (List z0k)) (r : (List z02)) (h : z54 (n + 1) a0 = some r) : Cv Tryz.prog (GX X) 43 [xL (List.map z2o a0)] (z5c r) := by
 refine Cs.toV (?_ : Cs Tryz.prog (GX X) 43 [xL (List.map z2o a0)] [] (z5c r) (zeq r)) (by kernel_rfl)
 refine fnT (cx := cx X) Tryz.f43 Tryz.call43 Tryz.func43 (by kernel_rfl) ?_
 rw [z54] at h
 refine adv (ok X) 7 [] pT (by kernel_rfl) ?_
 refine lp (ok X) (z78 (z54 n) a0) (fun (x1 : (Int × (List z02))) => ⟨74, 0, [(0, [xL (List.map z2o a0)]), (3, [xR 0]), (4, [xI x1.1])], [oR true 108 19 (List.map z0s x1.2)]⟩) (fun (j1 : (List z02)) => ⟨74, 0, [(3, [xR 0])], [oR true 108 19 (List.map z0s j1)]⟩) zer (0, []) (fun _ => ⟨_, _, _, _, rfl⟩) h (by kernel_rfl) (fun x1 o h => ?_) (fun r' h => ?_) (fun j1 h => ?_)
 ·unfold z78 at h
  refine adv (ok X) 3 [.i (a0.length : Int)] (pA (lm z2o a0) pT) (by kernel_rfl) ?_
  rcases iteE h with ⟨k1, h⟩ | ⟨k1, h⟩
  ·obtain ⟨v1, k2, h⟩ := z0b h
   obtain ⟨v2, k3, h⟩ := z0b h
   obtain ⟨v3, k4, h⟩ := z0b h
   obtain ⟨v4, k5, h⟩ := z0b h
   obtain ⟨v5, k6, h⟩ := z0b h
   refine adv (ok X) 11 [.b true, .e (zfp v1), .o [0, 1, 2, 3, 4, 5, 6, 7, 8, 9, 10, 11, 12, 13, 14, 15, 16, 17, 18, 19, 20], .c (z5o v2), .c (zdg v3), .c (z5c v4), .c (z5c v5)] (pA k1 (pA (ixr z9y k2) (pA (zdh (X := X) k3) (pA (zmg (X := X) k4) (pA (ih_l02_Stmts _ _ k5) (pA (ih_l02_Stmts _ _ k6) pT)))))) (by kernel_rfl) ?_
   refine lp (ok X) (z77 (z54 n) v1) (fun (x2 : (Int × (List z0r))) => ⟨74, 0, [(0, [xL (List.map z2o a0)]), (3, [xR 0]), (4, [xI x1.1]), (5, [xP 1 0]), (6, [xP 2 0]), (7, [xI x2.1])], [oR true 108 19 (List.map z0s x1.2), oB 50 (bs (zfp v1)), oB 108 [.pv (.int .i64 v1.Kind), .pv (.str v1.Name), .pv (.str v1.Tag), .pv (.int .i64 v2.Kind), .pv (.int .i64 v2.Num), .pv (.str v2.Name), .pv (.sl (List.map z0q v2.Kids)), .pv (.int .i64 v3.Op), .pv (.int .i64 v3.L.Kind), .pv (.int .i64 v3.L.Num), .pv (.str v3.L.Name), .pv (.sl (List.map z0q v3.L.Kids)), .pv (.int .i64 v3.R.Kind), .pv (.int .i64 v3.R.Num), .pv (.str v3.R.Name), .pv (.sl (List.map z0q v3.R.Kids)), .pv (.sl (List.map z0s v4)), .pv (.sl (List.map z0s v5)), .row 3], oR true 156 3 (List.map z1j x2.2)]⟩) (fun (j2 : (List z0r)) => ⟨74, 0, [(0, [xL (List.map z2o a0)]), (3, [xR 0]), (4, [xI x1.1]), (6, [xP 2 0])], [oR true 108 19 (List.map z0s x1.2), none, oB 108 [.pv (.int .i64 v1.Kind), .pv (.str v1.Name), .pv (.str v1.Tag), .pv (.int .i64 v2.Kind), .pv (.int .i64 v2.Num), .pv (.str v2.Name), .pv (.sl (List.map z0q v2.Kids)), .pv (.int .i64 v3.Op), .pv (.int .i64 v3.L.Kind), .pv (.int .i64 v3.L.Num), .pv (.str v3.L.Name), .pv (.sl (List.map z0q v3.L.Kids)), .pv (.int .i64 v3.R.Kind), .pv (.int .i64 v3.R.Num), .pv (.str v3.R.Name), .pv (.sl (List.map z0q v3.R.Kids)), .pv (.sl (List.map z0s v4)), .pv (.sl (List.map z0s v5)), .row 3], oR true 156 3 (List.map z1j j2)]⟩) zer (0, []) (fun _ => ⟨_, _, _, _, rfl⟩) h (by kernel_rfl) (fun x2 o h => ?_) (fun r' h => ?_) (fun j2 h => ?_)
   ·unfold z77 at h
    refine adv (ok X) 3 [.i (v1.Arms.length : Int)] (pA (lm z8p v1.Arms) pT) (by kernel_rfl) ?_
    rcases iteE h with ⟨k7, h⟩ | ⟨k7, h⟩
    ·obtain ⟨v6, k8, h⟩ := z0b h
     obtain ⟨v7, k9, h⟩ := z0b h
     obtain ⟨v8, k10, h⟩ := z0b h
     obtain rfl := retE h
     exact fin (ok X) 7 [.b true, .o [0, 1, 2, 3, 4, 5, 6, 7, 8, 9, 10, 11, 12, 13, 14, 15, 16, 17, 18, 19, 20, 21, 22, 23, 24, 25], .e (zeo v6), .e (zeo v6), .e (zeo v6), .c (z5c v7), .bl (List.map z1j [(z0r.mk v6.Tag v6.Var v7)]), .l (List.map z1j v8)] (pA k7 (pA (ixr zar k8) (pA (ixr zar k8) (pA (ixr zar k8) (pA (ih_l02_Stmts _ _ k9) (pA (blc (e := z1j) (x := (z0r.mk v6.Tag v6.Var v7)) (z73 _).symm (bl0 z1j)) (pA (apm (L := x2.2) (M := [(z0r.mk v6.Tag v6.Var v7)]) z9x k10) pT))))))) (by kernel_rfl)
    ·obtain rfl := retE h
     exact fin (ok X) 2 [.b false] (pA k7 pT) (by kernel_rfl)
   ·cases h
   ·obtain ⟨v9, k11, h⟩ := z0b h
    obtain rfl := retE h
    exact fin (ok X) 3 [.z (.fz 3), .bl (List.map z0s [(z02.mk v1.Kind v1.Name v1.Tag v2 v3 v4 v5 j2)]), .l (List.map z0s v9)] (pA (blc (e := z0s) (x := (z02.mk v1.Kind v1.Name v1.Tag v2 v3 v4 v5 j2)) (z2r _).symm (bl0 z0s)) (pA (apm (L := x1.2) (M := [(z02.mk v1.Kind v1.Name v1.Tag v2 v3 v4 v5 j2)]) zbo k11) pT)) (by kernel_rfl)
  ·obtain rfl := retE h
   exact fin (ok X) 2 [.b false] (pA k1 pT) (by kernel_rfl)
 ·cases h
 ·obtain rfl := retE h
  exact fin (ok X) 3 [] pT (by kernel_rfl)

theorem zcv : ∀ n : Nat, (∀ (a0 : (List z0k)) (r : (List z02)), z54 n a0 = some r → Cv Tryz.prog (GX X) 43 [xL (List.map z2o a0)] (z5c r))
 | 0 => (fun _ _ h => by rw [z54] at h; cases h)
 | n + 1 => by
  have ih := zcv n
  exact zj4 ih

theorem zj5 {a0 : (List z0k)} {r : (List z02)} (h : zes a0 = some r) : Cv Tryz.prog (GX X) 43 [xL (List.map z2o a0)] (z5c r) := by
 obtain ⟨n, hn⟩ := unfE h
 exact (zcv n) _ _ hn

theorem zdr {a0 : z38} {r : z1g} (h : z6e a0 = some r) : Cv Tryz.prog (GX X) 13 [.agg (bs (z56 a0))] (z81 r) := by
 refine Cs.toV (?_ : Cs Tryz.prog (GX X) 13 [.agg (bs (z56 a0))] [] (z81 r) (zdp r)) (by kernel_rfl)
 refine fnT (cx := cx X) Tryz.f13 Tryz.call13 Tryz.func13 (by kernel_rfl) ?_
 unfold z6e at h
 refine adv (ok X) 7 [] pT (by kernel_rfl) ?_
 refine lp (ok X) (z6a a0) (fun (x1 : (Int × (List z27))) => ⟨124, 0, [(1, [xP 0 0]), (2, [xP 1 0]), (3, [xP 2 0]), (4, [xI x1.1])], [oB 34 (bs (z56 a0)), oB 26 [.emp, .emp, .emp], oB 26 [.row 3, .emp, .emp], oR true 73 6 (List.map z1l x1.2)]⟩) (fun (j1 : (List z27)) => ⟨124, 0, [(1, [xP 0 0]), (2, [xP 1 0]), (3, [xP 2 0])], [oB 34 (bs (z56 a0)), oB 26 [.emp, .emp, .emp], oB 26 [.row 3, .emp, .emp], oR true 73 6 (List.map z1l j1)]⟩) z93 (0, []) (fun _ => ⟨_, _, _, _, rfl⟩) h (by kernel_rfl) (fun x1 o h => ?_) (fun r' h => ?_) (fun j1 h => ?_)
 ·unfold z6a at h
  refine adv (ok X) 3 [.i (a0.Chans.length : Int)] (pA (lm zbc a0.Chans) pT) (by kernel_rfl) ?_
  rcases iteE h with ⟨k1, h⟩ | ⟨k1, h⟩
  ·obtain ⟨v1, k2, h⟩ := z0b h
   obtain ⟨v2, k3, h⟩ := z0b h
   obtain ⟨v3, k4, h⟩ := z0b h
   obtain rfl := retE h
   exact fin (ok X) 9 [.b true, .e (zbc v1), .o [0, 1, 2, 3, 4, 5, 6, 7, 8, 9, 10, 11, 12, 13, 14, 15, 16, 17, 18, 19, 20], .cp (List.map z4e v2), .l (List.map z1l v3)] (pA k1 (pA (ixm zbc k2) (pA (apm zaw k3) (pA (apm (L := x1.2) (M := [(z27.mk v1.Name v1.Kind v1.Size v1.From v1.To v2)]) zbq k4) pT)))) (by kernel_rfl)
  ·obtain rfl := retE h
   exact fin (ok X) 2 [.b false] (pA k1 pT) (by kernel_rfl)
 ·cases h
 ·refine adv (ok X) 3 [] pT (by kernel_rfl) ?_
  refine lp (ok X) (z6c a0) (fun (x2 : (Int × (List z2a))) => ⟨124, 0, [(1, [xP 0 0]), (2, [xP 1 0]), (3, [xP 2 0]), (6, [xI x2.1])], [oB 34 (bs (z56 a0)), oB 26 [.emp, .emp, .emp], oB 26 [.row 3, .row 4, .emp], oR true 73 6 (List.map z1l j1), oR true 77 2 (List.map z24 x2.2)]⟩) (fun (j2 : (List z2a)) => ⟨124, 0, [(1, [xP 0 0]), (2, [xP 1 0]), (3, [xP 2 0])], [oB 34 (bs (z56 a0)), oB 26 [.emp, .emp, .emp], oB 26 [.row 3, .row 4, .emp], oR true 73 6 (List.map z1l j1), oR true 77 2 (List.map z24 j2)]⟩) z93 (0, []) (fun _ => ⟨_, _, _, _, rfl⟩) h (by kernel_rfl) (fun x2 o h => ?_) (fun r' h => ?_) (fun j2 h => ?_)
  ·unfold z6c at h
   refine adv (ok X) 3 [.i (a0.Rules.length : Int)] (pA (lm z76 a0.Rules) pT) (by kernel_rfl) ?_
   rcases iteE h with ⟨k5, h⟩ | ⟨k5, h⟩
   ·obtain ⟨v4, k6, h⟩ := z0b h
    refine adv (ok X) 9 [.b true, .e (z76 v4)] (pA k5 (pA (ixm z76 k6) pT)) (by kernel_rfl) ?_
    refine lp (ok X) (z6b a0 x2) (fun (x3 : (Int × (List z39))) => ⟨124, 0, [(1, [xP 0 0]), (2, [xP 1 0]), (3, [xP 2 0]), (6, [xI x2.1]), (7, [xP 5 0]), (8, [xI x3.1])], [oB 34 (bs (z56 a0)), oB 26 [.emp, .emp, .emp], oB 26 [.row 3, .row 4, .emp], oR true 73 6 (List.map z1l j1), oR true 77 2 (List.map z24 x2.2), oB 77 [.pv (.str v4.Chan), .row 6], oR true 111 3 (List.map z36 x3.2)]⟩) (fun (j3 : (List z39)) => ⟨124, 0, [(1, [xP 0 0]), (2, [xP 1 0]), (3, [xP 2 0]), (6, [xI x2.1]), (7, [xP 5 0])], [oB 34 (bs (z56 a0)), oB 26 [.emp, .emp, .emp], oB 26 [.row 3, .row 4, .emp], oR true 73 6 (List.map z1l j1), oR true 77 2 (List.map z24 x2.2), oB 77 [.pv (.str v4.Chan), .row 6], oR true 111 3 (List.map z36 j3)]⟩) z93 (0, []) (fun _ => ⟨_, _, _, _, rfl⟩) h (by kernel_rfl) (fun x3 o h => ?_) (fun r' h => ?_) (fun j3 h => ?_)
    ·unfold z6b at h
     obtain ⟨v5, k7, h⟩ := z0b h
     refine adv (ok X) 3 [.e (z76 v5), .i (v5.Moves.length : Int)] (pA (ixm z76 k7) (pA (lm zbd v5.Moves) pT)) (by kernel_rfl) ?_
     rcases iteE h with ⟨k8, h⟩ | ⟨k8, h⟩
     ·obtain ⟨v6, k9, h⟩ := z0b h
      obtain ⟨v7, k10, h⟩ := z0b h
      obtain ⟨v8, k11, h⟩ := z0b h
      obtain rfl := retE h
      exact fin (ok X) 9 [.b true, .e (z76 v6), .e (zbd v7), .l (List.map z36 v8)] (pA k8 (pA (ixm z76 k9) (pA (ixm zbd k10) (pA (apm (L := x3.2) (M := [(z39.mk v7.From v7.Tag v7.To)]) zbr k11) pT)))) (by kernel_rfl)
     ·obtain rfl := retE h
      exact fin (ok X) 2 [.b false] (pA k8 pT) (by kernel_rfl)
    ·cases h
    ·obtain ⟨v9, k12, h⟩ := z0b h
     obtain rfl := retE h
     exact fin (ok X) 3 [.z (.fz 6), .l (List.map z24 v9)] (pA (apm (L := x2.2) (M := [(z2a.mk v4.Chan j3)]) zbs k12) pT) (by kernel_rfl)
   ·obtain rfl := retE h
    exact fin (ok X) 2 [.b false] (pA k5 pT) (by kernel_rfl)
  ·cases h
  ·refine adv (ok X) 3 [] pT (by kernel_rfl) ?_
   refine lp (ok X) (z6d a0) (fun (x4 : (Int × (List z2d))) => ⟨124, 0, [(1, [xP 0 0]), (2, [xP 1 0]), (3, [xP 2 0]), (10, [xI x4.1])], [oB 34 (bs (z56 a0)), oB 26 [.emp, .emp, .emp], oB 26 [.row 3, .row 4, .row 5], oR true 73 6 (List.map z1l j1), oR true 77 2 (List.map z24 j2), oR true 81 3 (List.map z0j x4.2)]⟩) (fun (j4 : (List z2d)) => ⟨124, 0, [(2, [xP 1 0]), (3, [xP 2 0])], [none, oB 26 [.emp, .emp, .emp], oB 26 [.row 3, .row 4, .row 5], oR true 73 6 (List.map z1l j1), oR true 77 2 (List.map z24 j2), oR true 81 3 (List.map z0j j4)]⟩) z93 (0, []) (fun _ => ⟨_, _, _, _, rfl⟩) h (by kernel_rfl) (fun x4 o h => ?_) (fun r' h => ?_) (fun j4 h => ?_)
   ·unfold z6d at h
    refine adv (ok X) 3 [.i (a0.Procs.length : Int)] (pA (lm zbb a0.Procs) pT) (by kernel_rfl) ?_
    rcases iteE h with ⟨k13, h⟩ | ⟨k13, h⟩
    ·obtain ⟨v10, k14, h⟩ := z0b h
     obtain ⟨v11, k15, h⟩ := z0b h
     obtain ⟨v12, k16, h⟩ := z0b h
     obtain ⟨v13, k17, h⟩ := z0b h
     obtain rfl := retE h
     exact fin (ok X) 9 [.b true, .e (zbb v10), .o [0, 1, 2, 3, 4, 5, 6, 7, 8, 9, 10, 11, 12, 13, 14, 15], .cp (List.map z4e v11), .c (z5c v12), .l (List.map z0j v13)] (pA k13 (pA (ixm zbb k14) (pA (apm zaw k15) (pA (zj5 (X := X) k16) (pA (apm (L := x4.2) (M := [(z2d.mk v10.Name v11 v12)]) zbt k17) pT))))) (by kernel_rfl)
    ·obtain rfl := retE h
     exact fin (ok X) 2 [.b false] (pA k13 pT) (by kernel_rfl)
   ·cases h
   ·obtain rfl := retE h
    exact fin (ok X) 3 [] pT (by kernel_rfl)

theorem zj6 {a0 : (List z39)} {a1 : (List z39)} {r : Bool} (h : zat a0 a1 = some r) : Cv Tryz.prog (GX X) 35 [xL (List.map z36 a0), xL (List.map z36 a1)] (za2 r) := by
 refine Cs.toV (?_ : Cs Tryz.prog (GX X) 35 [xL (List.map z36 a0), xL (List.map z36 a1)] [] (za2 r) (zet r)) (by kernel_rfl)
 refine fnT (cx := cx X) Tryz.f35 Tryz.call35 Tryz.func35 (by kernel_rfl) ?_
 unfold zat at h
 refine adv (ok X) 5 [.i (a0.length : Int), .i (a1.length : Int)] (pA (lm z36 a0) (pA (lm z36 a1) pT)) (by kernel_rfl) ?_
 rcases iteE h with ⟨k1, h⟩ | ⟨k1, h⟩
 ·obtain rfl := retE h
  exact fin (ok X) 4 [.b true] (pA k1 pT) (by kernel_rfl)
 ·refine adv (ok X) 5 [.b false, .i (a0.length : Int)] (pA k1 (pA (lm z36 a0) pT)) (by kernel_rfl) ?_
  refine lp (ok X) (z79 a0 a1) (fun (x1 : Int) => ⟨26, 0, [(0, [xL (List.map z36 a0)]), (1, [xL (List.map z36 a1)]), (12, [xI (a0.length : Int)]), (13, [xI x1])], []⟩) (fun (j1 : Unit) => ⟨26, 0, [], []⟩) zj1 0 (fun _ => ⟨_, _, _, _, rfl⟩) h (by kernel_rfl) (fun x1 o h => ?_) (fun r' h => ?_) (fun j1 h => ?_)
  ·unfold z79 at h
   rcases iteE h with ⟨k2, h⟩ | ⟨k2, h⟩
   ·obtain ⟨v1, k3, h⟩ := z0b h
    obtain ⟨v2, k4, h⟩ := z0b h
    refine adv (ok X) 11 [.b true, .o [0, 1, 2, 3, 4, 5, 6, 7, 8], .e (z36 v1), .e (z36 v2)] (pA k2 (pA (ixm z36 k3) (pA (ixm z36 k4) pT))) (by kernel_rfl) ?_
    rcases iteE h with ⟨k5, h⟩ | ⟨k5, h⟩
    ·obtain rfl := retE h
     exact fin (ok X) 4 [.b true] (pA k5 pT) (by kernel_rfl)
    ·obtain rfl := retE h
     exact fin (ok X) 4 [.b false] (pA k5 pT) (by kernel_rfl)
   ·obtain rfl := retE h
    exact fin (ok X) 5 [.b false] (pA k2 pT) (by kernel_rfl)
  ·obtain rfl := retE h
   kernel_rfl
  ·obtain rfl := retE h
   exact fin (ok X) 3 [] pT (by kernel_rfl)

theorem zht {a0 : z2a} {a1 : z2a} {r : Bool} (h : zbe a0 a1 = some r) : Cv Tryz.prog (GX X) 34 [.agg (bs (z24 a0)), .agg (bs (z24 a1))] (zau r) := by
 refine Cs.toV (?_ : Cs Tryz.prog (GX X) 34 [.agg (bs (z24 a0)), .agg (bs (z24 a1))] [] (zau r) (zhq r)) (by kernel_rfl)
 refine fnT (cx := cx X) Tryz.f34 Tryz.call34 Tryz.func34 (by kernel_rfl) ?_
 unfold zbe at h
 rcases iteE h with ⟨k1, h⟩ | ⟨k1, h⟩
 ·obtain ⟨v1, k2, h⟩ := z0b h
  obtain rfl := retE h
  exact fin (ok X) 5 (bT 5 [.c (za2 v1), .b true]) (pR 5 k1 (pA (zj6 (X := X) k2) (pA k1 pT))) (by kernel_rfl)
 ·obtain rfl := retE h
  exact fin (ok X) 5 (bF 6 []) (pR 6 k1 pT) (by kernel_rfl)

theorem zag {a0 : (List z2a)} {a1 : (List z2a)} {r : Bool} (h : z4o a0 a1 = some r) : Cv Tryz.prog (GX X) 33 [xL (List.map z24 a0), xL (List.map z24 a1), .fn (.func 34) [] []] (z50 r) := by
 refine Cs.toV (?_ : Cs Tryz.prog (GX X) 33 [xL (List.map z24 a0), xL (List.map z24 a1), .fn (.func 34) [] []] [] (z50 r) (z7j r)) (by kernel_rfl)
 refine fnT (cx := cx X) Tryz.f33 Tryz.call33 Tryz.func33 (by kernel_rfl) ?_
 unfold z4o at h
 refine adv (ok X) 5 [.i (a0.length : Int), .i (a1.length : Int)] (pA (lm z24 a0) (pA (lm z24 a1) pT)) (by kernel_rfl) ?_
 rcases iteE h with ⟨k1, h⟩ | ⟨k1, h⟩
 ·obtain rfl := retE h
  exact fin (ok X) 4 [.b true] (pA k1 pT) (by kernel_rfl)
 ·refine adv (ok X) 5 [.b false, .i (a0.length : Int)] (pA k1 (pA (lm z24 a0) pT)) (by kernel_rfl) ?_
  refine lp (ok X) (z3m a0 a1) (fun (x1 : Int) => ⟨32, 0, [(1, [xL (List.map z24 a1)]), (2, [.fn (.func 34) [] []]), (15, [xL (List.map z24 a0)]), (16, [xI (a0.length : Int)]), (17, [xI x1])], []⟩) (fun (j1 : Unit) => ⟨32, 0, [], []⟩) zab 0 (fun _ => ⟨_, _, _, _, rfl⟩) h (by kernel_rfl) (fun x1 o h => ?_) (fun r' h => ?_) (fun j1 h => ?_)
  ·unfold z3m at h
   rcases iteE h with ⟨k2, h⟩ | ⟨k2, h⟩
   ·obtain ⟨v1, k3, h⟩ := z0b h
    obtain ⟨v2, k4, h⟩ := z0b h
    obtain ⟨v3, k5, h⟩ := z0b h
    refine adv (ok X) 13 [.b true, .e (z24 v1), .e (z24 v2), .c (zau v3)] (pA k2 (pA (ixm z24 k3) (pA (ixm z24 k4) (pA (zht (X := X) k5) pT)))) (by kernel_rfl) ?_
    rcases iteE h with ⟨k6, h⟩ | ⟨k6, h⟩
    ·obtain rfl := retE h
     exact fin (ok X) 4 [.b true] (pA k6 pT) (by kernel_rfl)
    ·obtain rfl := retE h
     exact fin (ok X) 4 [.b false] (pA k6 pT) (by kernel_rfl)
   ·obtain rfl := retE h
    exact fin (ok X) 5 [.b false] (pA k2 pT) (by kernel_rfl)
  ·obtain rfl := retE h
   kernel_rfl
  ·obtain rfl := retE h
   exact fin (ok X) 3 [] pT (by kernel_rfl)

theorem z4l {a0 : (List ByteArray)} {a1 : (List ByteArray)} {r : Bool} (h : z31 a0 a1 = some r) : Cv Tryz.prog (GX X) 38 [xL (List.map z4e a0), xL (List.map z4e a1)] (z2q r) := by
 refine Cs.toV (?_ : Cs Tryz.prog (GX X) 38 [xL (List.map z4e a0), xL (List.map z4e a1)] [] (z2q r) (z5n r)) (by kernel_rfl)
 refine fnT (cx := cx X) Tryz.f38 Tryz.call38 Tryz.func38 (by kernel_rfl) ?_
 unfold z31 at h
 refine adv (ok X) 5 [.i (a0.length : Int), .i (a1.length : Int)] (pA (lm z4e a0) (pA (lm z4e a1) pT)) (by kernel_rfl) ?_
 rcases iteE h with ⟨k1, h⟩ | ⟨k1, h⟩
 ·obtain rfl := retE h
  exact fin (ok X) 4 [.b true] (pA k1 pT) (by kernel_rfl)
 ·refine adv (ok X) 5 [.b false, .i (a0.length : Int)] (pA k1 (pA (lm z4e a0) pT)) (by kernel_rfl) ?_
  refine lp (ok X) (z2p a0 a1) (fun (x1 : Int) => ⟨26, 0, [(0, [xL (List.map z4e a0)]), (1, [xL (List.map z4e a1)]), (12, [xI (a0.length : Int)]), (13, [xI x1])], []⟩) (fun (j1 : Unit) => ⟨26, 0, [], []⟩) z86 0 (fun _ => ⟨_, _, _, _, rfl⟩) h (by kernel_rfl) (fun x1 o h => ?_) (fun r' h => ?_) (fun j1 h => ?_)
  ·unfold z2p at h
   rcases iteE h with ⟨k2, h⟩ | ⟨k2, h⟩
   ·obtain ⟨v1, k3, h⟩ := z0b h
    obtain ⟨v2, k4, h⟩ := z0b h
    refine adv (ok X) 11 [.b true, .o [0, 1, 2, 3, 4, 5, 6, 7, 8], .e [.str v1], .e [.str v2]] (pA k2 (pA (ixm z4e k3) (pA (ixm z4e k4) pT))) (by kernel_rfl) ?_
    rcases iteE h with ⟨k5, h⟩ | ⟨k5, h⟩
    ·obtain rfl := retE h
     exact fin (ok X) 4 [.b true] (pA k5 pT) (by kernel_rfl)
    ·obtain rfl := retE h
     exact fin (ok X) 4 [.b false] (pA k5 pT) (by kernel_rfl)
   ·obtain rfl := retE h
    exact fin (ok X) 5 [.b false] (pA k2 pT) (by kernel_rfl)
  ·obtain rfl := retE h
   kernel_rfl
  ·obtain rfl := retE h
   exact fin (ok X) 3 [] pT (by kernel_rfl)

theorem zfa {n : Nat} (ih_ast_sameExpr : ∀ (a0 : z03) (a1 : z03) (r : Bool), z3n n a0 a1 = some r → Cv Tryz.prog (GX X) 69 [.agg (bs (z25 a0)), .agg (bs (z25 a1))] (z3j r)) (ih_ast_Expr__ast_sameExpr : ∀ (a0 : (List z03)) (a1 : (List z03)) (r : Bool), z1k n a0 a1 = some r → Cv Tryz.prog (GX X) 101 [xL (List.map z0q a0), xL (List.map z0q a1), .fn (.func 69) [] []] (z32 r)) (a0 : z03) (a1 : z03) (r : Bool) (h : z3n (n + 1) a0 a1 = some r) : Cv Tryz.prog (GX X) 69 [.agg (bs (z25 a0)), .agg (bs (z25 a1))] (z3j r) := by
 refine Cs.toV (?_ : Cs Tryz.prog (GX X) 69 [.agg (bs (z25 a0)), .agg (bs (z25 a1))] [] (z3j r) (zf5 r)) (by kernel_rfl)
 refine fnT (cx := cx X) Tryz.f69 Tryz.call69 Tryz.func69 (by kernel_rfl) ?_
 rw [z3n] at h
 refine adv (ok X) 4 [] pT (by kernel_rfl) ?_
 refine jn (ok X) 1 (fun (j1 : Bool) => ⟨39, 0, [(2, [xP 0 0]), (3, [xP 1 0]), (33, [xB j1])], [oB 103 (bs (z25 a0)), oB 103 (bs (z25 a1))]⟩) h (fun j1 h => ?_) (fun j1 h => ?_)
 ·rcases iteE h with ⟨k1, h⟩ | ⟨k1, h⟩
  ·obtain rfl := retE h
   exact fin (ok X) 1 (bT 12 []) (pR 6 k1 (pR 6 tt pT)) (by kernel_rfl)
  ·rcases iteE h with ⟨k2, h⟩ | ⟨k2, h⟩
   ·rcases iteE h with ⟨k3, h⟩ | ⟨k3, h⟩
    ·obtain rfl := retE h
     exact fin (ok X) 1 (bF 4 (bT 5 (.b false :: .b true :: .b false :: bT 6 []))) (pR 4 k1 (pR 5 k2 (pA k1 (pA k2 (pA k1 (pR 6 k3 pT)))))) (by kernel_rfl)
    ·rcases iteE h with ⟨k4, h⟩ | ⟨k4, h⟩
     ·obtain rfl := retE h
      exact fin (ok X) 1 (bF 4 (bT 5 (.b false :: .b true :: bF 5 (bT 5 [.b false, .b true, .b false])))) (pR 4 k1 (pR 5 k2 (pA k1 (pA k2 (pA k1 (pR 4 k3 (pR 5 k4 (pA k3 (pA k4 (pA k3 pT)))))))))) (by kernel_rfl)
     ·obtain rfl := retE h
      exact fin (ok X) 1 (bF 4 (bT 5 (.b false :: .b true :: bF 13 []))) (pR 4 k1 (pR 5 k2 (pA k1 (pA k2 (pA k1 (pR 4 k3 (pR 5 k4 (pA k3 (pA k4 (pA k3 pT)))))))))) (by kernel_rfl)
   ·rcases iteE h with ⟨k5, h⟩ | ⟨k5, h⟩
    ·obtain rfl := retE h
     exact fin (ok X) 1 (bF 16 (bT 5 [.b false, .b true, .b false])) (pR 4 k1 (pR 5 k2 (pA k1 (pA k2 (pA k1 (pR 4 ff (pR 5 k5 (pA ff (pA k5 (pA ff pT)))))))))) (by kernel_rfl)
    ·obtain rfl := retE h
     exact fin (ok X) 1 (bF 24 []) (pR 4 k1 (pR 5 k2 (pA k1 (pA k2 (pA k1 (pR 4 ff (pR 5 k5 (pA ff (pA k5 (pA ff pT)))))))))) (by kernel_rfl)
 ·rcases iteE h with ⟨k6, h⟩ | ⟨k6, h⟩
  ·obtain rfl := retE h
   exact fin (ok X) 4 [.b true] (pA k6 pT) (by kernel_rfl)
  ·obtain ⟨v1, k7, h⟩ := z0b h
   obtain rfl := retE h
   exact fin (ok X) 5 [.b false, .c (z32 v1)] (pA k6 (pA (ih_ast_Expr__ast_sameExpr _ _ _ k7) pT)) (by kernel_rfl)

theorem z9j {n : Nat} (ih_ast_sameExpr : ∀ (a0 : z03) (a1 : z03) (r : Bool), z3n n a0 a1 = some r → Cv Tryz.prog (GX X) 69 [.agg (bs (z25 a0)), .agg (bs (z25 a1))] (z3j r)) (ih_ast_Expr__ast_sameExpr : ∀ (a0 : (List z03)) (a1 : (List z03)) (r : Bool), z1k n a0 a1 = some r → Cv Tryz.prog (GX X) 101 [xL (List.map z0q a0), xL (List.map z0q a1), .fn (.func 69) [] []] (z32 r)) (a0 : (List z03)) (a1 : (List z03)) (r : Bool) (h : z1k (n + 1) a0 a1 = some r) : Cv Tryz.prog (GX X) 101 [xL (List.map z0q a0), xL (List.map z0q a1), .fn (.func 69) [] []] (z32 r) := by
 refine Cs.toV (?_ : Cs Tryz.prog (GX X) 101 [xL (List.map z0q a0), xL (List.map z0q a1), .fn (.func 69) [] []] [] (z32 r) (z7a r)) (by kernel_rfl)
 refine fnT (cx := cx X) Tryz.f101 Tryz.call101 Tryz.func101 (by kernel_rfl) ?_
 rw [z1k] at h
 refine adv (ok X) 5 [.i (a0.length : Int), .i (a1.length : Int)] (pA (lm z0q a0) (pA (lm z0q a1) pT)) (by kernel_rfl) ?_
 rcases iteE h with ⟨k1, h⟩ | ⟨k1, h⟩
 ·obtain rfl := retE h
  exact fin (ok X) 4 [.b true] (pA k1 pT) (by kernel_rfl)
 ·refine adv (ok X) 5 [.b false, .i (a0.length : Int)] (pA k1 (pA (lm z0q a0) pT)) (by kernel_rfl) ?_
  refine lp (ok X) (z3a (z3n n) (z1k n) a0 a1) (fun (x1 : Int) => ⟨32, 0, [(1, [xL (List.map z0q a1)]), (2, [.fn (.func 69) [] []]), (15, [xL (List.map z0q a0)]), (16, [xI (a0.length : Int)]), (17, [xI x1])], []⟩) (fun (j1 : Unit) => ⟨32, 0, [], []⟩) z9g 0 (fun _ => ⟨_, _, _, _, rfl⟩) h (by kernel_rfl) (fun x1 o h => ?_) (fun r' h => ?_) (fun j1 h => ?_)
  ·unfold z3a at h
   rcases iteE h with ⟨k2, h⟩ | ⟨k2, h⟩
   ·obtain ⟨v1, k3, h⟩ := z0b h
    obtain ⟨v2, k4, h⟩ := z0b h
    obtain ⟨v3, k5, h⟩ := z0b h
    refine adv (ok X) 13 [.b true, .e (z25 v1), .e (z25 v2), .c (z3j v3)] (pA k2 (pA (ixr z3r k3) (pA (ixr z3r k4) (pA (ih_ast_sameExpr _ _ _ k5) pT)))) (by kernel_rfl) ?_
    rcases iteE h with ⟨k6, h⟩ | ⟨k6, h⟩
    ·obtain rfl := retE h
     exact fin (ok X) 4 [.b true] (pA k6 pT) (by kernel_rfl)
    ·obtain rfl := retE h
     exact fin (ok X) 4 [.b false] (pA k6 pT) (by kernel_rfl)
   ·obtain rfl := retE h
    exact fin (ok X) 5 [.b false] (pA k2 pT) (by kernel_rfl)
  ·obtain rfl := retE h
   kernel_rfl
  ·obtain rfl := retE h
   exact fin (ok X) 3 [] pT (by kernel_rfl)

theorem za9 : ∀ n : Nat, (∀ (a0 : z03) (a1 : z03) (r : Bool), z3n n a0 a1 = some r → Cv Tryz.prog (GX X) 69 [.agg (bs (z25 a0)), .agg (bs (z25 a1))] (z3j r)) ∧ (∀ (a0 : (List z03)) (a1 : (List z03)) (r : Bool), z1k n a0 a1 = some r → Cv Tryz.prog (GX X) 101 [xL (List.map z0q a0), xL (List.map z0q a1), .fn (.func 69) [] []] (z32 r))
 | 0 => ⟨(fun _ _ _ h => by rw [z3n] at h; cases h), (fun _ _ _ h => by rw [z1k] at h; cases h)⟩
 | n + 1 => by
  have ih := za9 n
  exact ⟨zfa ih.1 ih.2, z9j ih.1 ih.2⟩

theorem z6n {a0 : z03} {a1 : z03} {r : Bool} (h : z7b a0 a1 = some r) : Cv Tryz.prog (GX X) 69 [.agg (bs (z25 a0)), .agg (bs (z25 a1))] (z3j r) := by
 obtain ⟨n, hn⟩ := unfE h
 exact (za9 n).1 _ _ _ hn

theorem z5p {a0 : z33} {a1 : z33} {r : Bool} (h : z60 a0 a1 = some r) : Cv Tryz.prog (GX X) 70 [.agg (bs (z8h a0)), .agg (bs (z8h a1))] (z4r r) := by
 refine Cs.toV (?_ : Cs Tryz.prog (GX X) 70 [.agg (bs (z8h a0)), .agg (bs (z8h a1))] [] (z4r r) (zf6 r)) (by kernel_rfl)
 refine fnT (cx := cx X) Tryz.f70 Tryz.call70 Tryz.func70 (by kernel_rfl) ?_
 unfold z60 at h
 rcases iteE h with ⟨k1, h⟩ | ⟨k1, h⟩
 ·obtain ⟨v1, k2, h⟩ := z0b h
  rcases iteE h with ⟨k3, h⟩ | ⟨k3, h⟩
  ·obtain ⟨v2, k4, h⟩ := z0b h
   obtain rfl := retE h
   exact fin (ok X) 5 (bT 5 (.c (z3j v1) :: bT 6 [.c (z3j v2), .b true])) (pR 5 k1 (pA (z6n (X := X) k2) (pA k1 (pR 5 k3 (pA (z6n (X := X) k4) (pA k3 pT)))))) (by kernel_rfl)
  ·obtain rfl := retE h
   exact fin (ok X) 5 (bT 5 (.c (z3j v1) :: .b true :: bF 6 [])) (pR 5 k1 (pA (z6n (X := X) k2) (pA k1 (pR 6 k3 pT)))) (by kernel_rfl)
 ·obtain rfl := retE h
  exact fin (ok X) 5 (bF 12 []) (pR 6 k1 (pR 6 ff pT)) (by kernel_rfl)

theorem z9k {n : Nat} (ih_ast_Stmt__ast_sameStmt : ∀ (a0 : (List z02)) (a1 : (List z02)) (r : Bool), z0p n a0 a1 = some r → Cv Tryz.prog (GX X) 39 [xL (List.map z0s a0), xL (List.map z0s a1), .fn (.func 40) [] []] (z13 r)) (ih_ast_sameStmt : ∀ (a0 : z02) (a1 : z02) (r : Bool), z2n n a0 a1 = some r → Cv Tryz.prog (GX X) 40 [.agg (bs (z1m a0)), .agg (bs (z1m a1))] (z4s r)) (ih_ast_Arm__ast_sameArm : ∀ (a0 : (List z0r)) (a1 : (List z0r)) (r : Bool), z14 n a0 a1 = some r → Cv Tryz.prog (GX X) 71 [xL (List.map z1j a0), xL (List.map z1j a1), .fn (.func 72) [] []] (z2m r)) (ih_ast_sameArm : ∀ (a0 : z0r) (a1 : z0r) (r : Bool), z34 n a0 a1 = some r → Cv Tryz.prog (GX X) 72 [.agg (bs (z4b a0)), .agg (bs (z4b a1))] (z58 r)) (a0 : (List z02)) (a1 : (List z02)) (r : Bool) (h : z0p (n + 1) a0 a1 = some r) : Cv Tryz.prog (GX X) 39 [xL (List.map z0s a0), xL (List.map z0s a1), .fn (.func 40) [] []] (z13 r) := by
 refine Cs.toV (?_ : Cs Tryz.prog (GX X) 39 [xL (List.map z0s a0), xL (List.map z0s a1), .fn (.func 40) [] []] [] (z13 r) (z7c r)) (by kernel_rfl)
 refine fnT (cx := cx X) Tryz.f39 Tryz.call39 Tryz.func39 (by kernel_rfl) ?_
 rw [z0p] at h
 refine adv (ok X) 5 [.i (a0.length : Int), .i (a1.length : Int)] (pA (lm z0s a0) (pA (lm z0s a1) pT)) (by kernel_rfl) ?_
 rcases iteE h with ⟨k1, h⟩ | ⟨k1, h⟩
 ·obtain rfl := retE h
  exact fin (ok X) 4 [.b true] (pA k1 pT) (by kernel_rfl)
 ·refine adv (ok X) 5 [.b false, .i (a0.length : Int)] (pA k1 (pA (lm z0s a0) pT)) (by kernel_rfl) ?_
  refine lp (ok X) (z3b (z0p n) (z2n n) (z14 n) (z34 n) a0 a1) (fun (x1 : Int) => ⟨32, 0, [(1, [xL (List.map z0s a1)]), (2, [.fn (.func 40) [] []]), (15, [xL (List.map z0s a0)]), (16, [xI (a0.length : Int)]), (17, [xI x1])], []⟩) (fun (j1 : Unit) => ⟨32, 0, [], []⟩) z9h 0 (fun _ => ⟨_, _, _, _, rfl⟩) h (by kernel_rfl) (fun x1 o h => ?_) (fun r' h => ?_) (fun j1 h => ?_)
  ·unfold z3b at h
   rcases iteE h with ⟨k2, h⟩ | ⟨k2, h⟩
   ·obtain ⟨v1, k3, h⟩ := z0b h
    obtain ⟨v2, k4, h⟩ := z0b h
    obtain ⟨v3, k5, h⟩ := z0b h
    refine adv (ok X) 13 [.b true, .e (z1m v1), .e (z1m v2), .c (z4s v3)] (pA k2 (pA (ixr z2r k3) (pA (ixr z2r k4) (pA (ih_ast_sameStmt _ _ _ k5) pT)))) (by kernel_rfl) ?_
    rcases iteE h with ⟨k6, h⟩ | ⟨k6, h⟩
    ·obtain rfl := retE h
     exact fin (ok X) 4 [.b true] (pA k6 pT) (by kernel_rfl)
    ·obtain rfl := retE h
     exact fin (ok X) 4 [.b false] (pA k6 pT) (by kernel_rfl)
   ·obtain rfl := retE h
    exact fin (ok X) 5 [.b false] (pA k2 pT) (by kernel_rfl)
  ·obtain rfl := retE h
   kernel_rfl
  ·obtain rfl := retE h
   exact fin (ok X) 3 [] pT (by kernel_rfl)

theorem zfb {n : Nat} (ih_ast_Stmt__ast_sameStmt : ∀ (a0 : (List z02)) (a1 : (List z02)) (r : Bool), z0p n a0 a1 = some r → Cv Tryz.prog (GX X) 39 [xL (List.map z0s a0), xL (List.map z0s a1), .fn (.func 40) [] []] (z13 r)) (ih_ast_sameStmt : ∀ (a0 : z02) (a1 : z02) (r : Bool), z2n n a0 a1 = some r → Cv Tryz.prog (GX X) 40 [.agg (bs (z1m a0)), .agg (bs (z1m a1))] (z4s r)) (ih_ast_Arm__ast_sameArm : ∀ (a0 : (List z0r)) (a1 : (List z0r)) (r : Bool), z14 n a0 a1 = some r → Cv Tryz.prog (GX X) 71 [xL (List.map z1j a0), xL (List.map z1j a1), .fn (.func 72) [] []] (z2m r)) (ih_ast_sameArm : ∀ (a0 : z0r) (a1 : z0r) (r : Bool), z34 n a0 a1 = some r → Cv Tryz.prog (GX X) 72 [.agg (bs (z4b a0)), .agg (bs (z4b a1))] (z58 r)) (a0 : z02) (a1 : z02) (r : Bool) (h : z2n (n + 1) a0 a1 = some r) : Cv Tryz.prog (GX X) 40 [.agg (bs (z1m a0)), .agg (bs (z1m a1))] (z4s r) := by
 refine Cs.toV (?_ : Cs Tryz.prog (GX X) 40 [.agg (bs (z1m a0)), .agg (bs (z1m a1))] [] (z4s r) (zf7 r)) (by kernel_rfl)
 refine fnT (cx := cx X) Tryz.f40 Tryz.call40 Tryz.func40 (by kernel_rfl) ?_
 rw [z2n] at h
 rcases iteE h with ⟨k1, h⟩ | ⟨k1, h⟩
 ·obtain rfl := retE h
  exact fin (ok X) 9 [.b true] (pA k1 pT) (by kernel_rfl)
 ·refine adv (ok X) 13 [.b false] (pA k1 pT) (by kernel_rfl) ?_
  rcases iteE h with ⟨k2, h⟩ | ⟨k2, h⟩
  ·refine adv (ok X) 2 [.b true] (pA k2 pT) (by kernel_rfl) ?_
   refine jn (ok X) 1 (fun (j1 : Bool) => ⟨110, 0, [(4, [xB j1])], []⟩) h (fun j1 h => ?_) (fun j1 h => ?_)
   ·rcases iteE h with ⟨k3, h⟩ | ⟨k3, h⟩
    ·obtain ⟨v1, k4, h⟩ := z0b h
     obtain rfl := retE h
     exact fin (ok X) 1 (bT 5 [.c (z3j v1), .b true]) (pR 5 k3 (pA (z6n (X := X) k4) (pA k3 pT))) (by kernel_rfl)
    ·obtain rfl := retE h
     exact fin (ok X) 1 (bF 6 []) (pR 6 k3 pT) (by kernel_rfl)
   ·obtain rfl := retE h
    exact fin (ok X) 1 [] pT (by kernel_rfl)
  ·refine adv (ok X) 3 [.b false] (pA k2 pT) (by kernel_rfl) ?_
   rcases iteE h with ⟨k5, h⟩ | ⟨k5, h⟩
   ·refine adv (ok X) 2 [.b true] (pA k5 pT) (by kernel_rfl) ?_
    refine jn (ok X) 1 (fun (j2 : Bool) => ⟨110, 0, [(4, [xB j2])], []⟩) h (fun j2 h => ?_) (fun j2 h => ?_)
    ·obtain ⟨v2, k6, h⟩ := z0b h
     rcases iteE h with ⟨k7, h⟩ | ⟨k7, h⟩
     ·obtain ⟨v3, k8, h⟩ := z0b h
      rcases iteE h with ⟨k9, h⟩ | ⟨k9, h⟩
      ·obtain ⟨v4, k10, h⟩ := z0b h
       obtain rfl := retE h
       exact fin (ok X) 1 (.c (z4r v2) :: bT 5 (.c (z13 v3) :: bT 6 [.c (z13 v4), .b true])) (pA (z5p (X := X) k6) (pR 5 k7 (pA (ih_ast_Stmt__ast_sameStmt _ _ _ k8) (pA k7 (pR 5 k9 (pA (ih_ast_Stmt__ast_sameStmt _ _ _ k10) (pA k9 pT))))))) (by kernel_rfl)
      ·obtain rfl := retE h
       exact fin (ok X) 1 (.c (z4r v2) :: bT 5 (.c (z13 v3) :: .b true :: bF 6 [])) (pA (z5p (X := X) k6) (pR 5 k7 (pA (ih_ast_Stmt__ast_sameStmt _ _ _ k8) (pA k7 (pR 6 k9 pT))))) (by kernel_rfl)
     ·obtain rfl := retE h
      exact fin (ok X) 1 (.c (z4r v2) :: bF 12 []) (pA (z5p (X := X) k6) (pR 6 k7 (pR 6 ff pT))) (by kernel_rfl)
    ·obtain rfl := retE h
     exact fin (ok X) 1 [] pT (by kernel_rfl)
   ·refine adv (ok X) 3 [.b false] (pA k5 pT) (by kernel_rfl) ?_
    rcases iteE h with ⟨k11, h⟩ | ⟨k11, h⟩
    ·refine adv (ok X) 2 [.b true] (pA k11 pT) (by kernel_rfl) ?_
     refine jn (ok X) 1 (fun (j3 : Bool) => ⟨110, 0, [(4, [xB j3])], []⟩) h (fun j3 h => ?_) (fun j3 h => ?_)
     ·obtain ⟨v5, k12, h⟩ := z0b h
      rcases iteE h with ⟨k13, h⟩ | ⟨k13, h⟩
      ·obtain ⟨v6, k14, h⟩ := z0b h
       obtain rfl := retE h
       exact fin (ok X) 1 (.c (z4r v5) :: bT 5 [.c (z13 v6), .b true]) (pA (z5p (X := X) k12) (pR 5 k13 (pA (ih_ast_Stmt__ast_sameStmt _ _ _ k14) (pA k13 pT)))) (by kernel_rfl)
      ·obtain rfl := retE h
       exact fin (ok X) 1 (.c (z4r v5) :: bF 6 []) (pA (z5p (X := X) k12) (pR 6 k13 pT)) (by kernel_rfl)
     ·obtain rfl := retE h
      exact fin (ok X) 1 [] pT (by kernel_rfl)
    ·refine adv (ok X) 3 [.b false] (pA k11 pT) (by kernel_rfl) ?_
     rcases iteE h with ⟨k15, h⟩ | ⟨k15, h⟩
     ·refine adv (ok X) 2 [.b true] (pA k15 pT) (by kernel_rfl) ?_
      refine jn (ok X) 1 (fun (j4 : Bool) => ⟨110, 0, [(4, [xB j4])], []⟩) h (fun j4 h => ?_) (fun j4 h => ?_)
      ·rcases iteE h with ⟨k16, h⟩ | ⟨k16, h⟩
       ·rcases iteE h with ⟨k17, h⟩ | ⟨k17, h⟩
        ·obtain ⟨v7, k18, h⟩ := z0b h
         obtain rfl := retE h
         exact fin (ok X) 1 (bT 11 [.c (z3j v7), .b true]) (pR 6 k16 (pR 5 k17 (pA (z6n (X := X) k18) (pA k17 pT)))) (by kernel_rfl)
        ·obtain rfl := retE h
         exact fin (ok X) 1 (bT 6 (bF 6 [])) (pR 6 k16 (pR 6 k17 pT)) (by kernel_rfl)
       ·obtain rfl := retE h
        exact fin (ok X) 1 (bF 12 []) (pR 6 k16 (pR 6 ff pT)) (by kernel_rfl)
      ·obtain rfl := retE h
       exact fin (ok X) 1 [] pT (by kernel_rfl)
     ·refine adv (ok X) 3 [.b false] (pA k15 pT) (by kernel_rfl) ?_
      rcases iteE h with ⟨k19, h⟩ | ⟨k19, h⟩
      ·refine adv (ok X) 2 [.b true] (pA k19 pT) (by kernel_rfl) ?_
       refine jn (ok X) 1 (fun (j5 : Bool) => ⟨110, 0, [(4, [xB j5])], []⟩) h (fun j5 h => ?_) (fun j5 h => ?_)
       ·rcases iteE h with ⟨k20, h⟩ | ⟨k20, h⟩
        ·obtain ⟨v8, k21, h⟩ := z0b h
         obtain rfl := retE h
         exact fin (ok X) 1 (bT 5 [.c (z2m v8), .b true]) (pR 5 k20 (pA (ih_ast_Arm__ast_sameArm _ _ _ k21) (pA k20 pT))) (by kernel_rfl)
        ·obtain rfl := retE h
         exact fin (ok X) 1 (bF 6 []) (pR 6 k20 pT) (by kernel_rfl)
       ·obtain rfl := retE h
        exact fin (ok X) 1 [] pT (by kernel_rfl)
      ·refine adv (ok X) 3 [.b false] (pA k19 pT) (by kernel_rfl) ?_
       rcases iteE h with ⟨k22, h⟩ | ⟨k22, h⟩
       ·obtain ⟨v9, k23, h⟩ := z0b h
        obtain rfl := retE h
        exact fin (ok X) 4 [.b true, .c (z4r v9)] (pA k22 (pA (z5p (X := X) k23) pT)) (by kernel_rfl)
       ·refine adv (ok X) 3 [.b false] (pA k22 pT) (by kernel_rfl) ?_
        rcases iteE h with ⟨k24, h⟩ | ⟨k24, h⟩
        ·obtain rfl := retE h
         exact fin (ok X) 4 [.b true] (pA k24 pT) (by kernel_rfl)
        ·obtain rfl := retE h
         exact fin (ok X) 6 [.b false] (pA k24 pT) (by kernel_rfl)

theorem zah {n : Nat} (ih_ast_Stmt__ast_sameStmt : ∀ (a0 : (List z02)) (a1 : (List z02)) (r : Bool), z0p n a0 a1 = some r → Cv Tryz.prog (GX X) 39 [xL (List.map z0s a0), xL (List.map z0s a1), .fn (.func 40) [] []] (z13 r)) (ih_ast_sameStmt : ∀ (a0 : z02) (a1 : z02) (r : Bool), z2n n a0 a1 = some r → Cv Tryz.prog (GX X) 40 [.agg (bs (z1m a0)), .agg (bs (z1m a1))] (z4s r)) (ih_ast_Arm__ast_sameArm : ∀ (a0 : (List z0r)) (a1 : (List z0r)) (r : Bool), z14 n a0 a1 = some r → Cv Tryz.prog (GX X) 71 [xL (List.map z1j a0), xL (List.map z1j a1), .fn (.func 72) [] []] (z2m r)) (ih_ast_sameArm : ∀ (a0 : z0r) (a1 : z0r) (r : Bool), z34 n a0 a1 = some r → Cv Tryz.prog (GX X) 72 [.agg (bs (z4b a0)), .agg (bs (z4b a1))] (z58 r)) (a0 : (List z0r)) (a1 : (List z0r)) (r : Bool) (h : z14 (n + 1) a0 a1 = some r) : Cv Tryz.prog (GX X) 71 [xL (List.map z1j a0), xL (List.map z1j a1), .fn (.func 72) [] []] (z2m r) := by
 refine Cs.toV (?_ : Cs Tryz.prog (GX X) 71 [xL (List.map z1j a0), xL (List.map z1j a1), .fn (.func 72) [] []] [] (z2m r) (z7k r)) (by kernel_rfl)
 refine fnT (cx := cx X) Tryz.f71 Tryz.call71 Tryz.func71 (by kernel_rfl) ?_
 rw [z14] at h
 refine adv (ok X) 5 [.i (a0.length : Int), .i (a1.length : Int)] (pA (lm z1j a0) (pA (lm z1j a1) pT)) (by kernel_rfl) ?_
 rcases iteE h with ⟨k1, h⟩ | ⟨k1, h⟩
 ·obtain rfl := retE h
  exact fin (ok X) 4 [.b true] (pA k1 pT) (by kernel_rfl)
 ·refine adv (ok X) 5 [.b false, .i (a0.length : Int)] (pA k1 (pA (lm z1j a0) pT)) (by kernel_rfl) ?_
  refine lp (ok X) (z3o (z0p n) (z2n n) (z14 n) (z34 n) a0 a1) (fun (x1 : Int) => ⟨32, 0, [(1, [xL (List.map z1j a1)]), (2, [.fn (.func 72) [] []]), (15, [xL (List.map z1j a0)]), (16, [xI (a0.length : Int)]), (17, [xI x1])], []⟩) (fun (j1 : Unit) => ⟨32, 0, [], []⟩) zac 0 (fun _ => ⟨_, _, _, _, rfl⟩) h (by kernel_rfl) (fun x1 o h => ?_) (fun r' h => ?_) (fun j1 h => ?_)
  ·unfold z3o at h
   rcases iteE h with ⟨k2, h⟩ | ⟨k2, h⟩
   ·obtain ⟨v1, k3, h⟩ := z0b h
    obtain ⟨v2, k4, h⟩ := z0b h
    obtain ⟨v3, k5, h⟩ := z0b h
    refine adv (ok X) 13 [.b true, .e (z4b v1), .e (z4b v2), .c (z58 v3)] (pA k2 (pA (ixr z73 k3) (pA (ixr z73 k4) (pA (ih_ast_sameArm _ _ _ k5) pT)))) (by kernel_rfl) ?_
    rcases iteE h with ⟨k6, h⟩ | ⟨k6, h⟩
    ·obtain rfl := retE h
     exact fin (ok X) 4 [.b true] (pA k6 pT) (by kernel_rfl)
    ·obtain rfl := retE h
     exact fin (ok X) 4 [.b false] (pA k6 pT) (by kernel_rfl)
   ·obtain rfl := retE h
    exact fin (ok X) 5 [.b false] (pA k2 pT) (by kernel_rfl)
  ·obtain rfl := retE h
   kernel_rfl
  ·obtain rfl := retE h
   exact fin (ok X) 3 [] pT (by kernel_rfl)

theorem zge {n : Nat} (ih_ast_Stmt__ast_sameStmt : ∀ (a0 : (List z02)) (a1 : (List z02)) (r : Bool), z0p n a0 a1 = some r → Cv Tryz.prog (GX X) 39 [xL (List.map z0s a0), xL (List.map z0s a1), .fn (.func 40) [] []] (z13 r)) (ih_ast_sameStmt : ∀ (a0 : z02) (a1 : z02) (r : Bool), z2n n a0 a1 = some r → Cv Tryz.prog (GX X) 40 [.agg (bs (z1m a0)), .agg (bs (z1m a1))] (z4s r)) (ih_ast_Arm__ast_sameArm : ∀ (a0 : (List z0r)) (a1 : (List z0r)) (r : Bool), z14 n a0 a1 = some r → Cv Tryz.prog (GX X) 71 [xL (List.map z1j a0), xL (List.map z1j a1), .fn (.func 72) [] []] (z2m r)) (ih_ast_sameArm : ∀ (a0 : z0r) (a1 : z0r) (r : Bool), z34 n a0 a1 = some r → Cv Tryz.prog (GX X) 72 [.agg (bs (z4b a0)), .agg (bs (z4b a1))] (z58 r)) (a0 : z0r) (a1 : z0r) (r : Bool) (h : z34 (n + 1) a0 a1 = some r) : Cv Tryz.prog (GX X) 72 [.agg (bs (z4b a0)), .agg (bs (z4b a1))] (z58 r) := by
 refine Cs.toV (?_ : Cs Tryz.prog (GX X) 72 [.agg (bs (z4b a0)), .agg (bs (z4b a1))] [] (z58 r) (zgd r)) (by kernel_rfl)
 refine fnT (cx := cx X) Tryz.f72 Tryz.call72 Tryz.func72 (by kernel_rfl) ?_
 rw [z34] at h
 rcases iteE h with ⟨k1, h⟩ | ⟨k1, h⟩
 ·rcases iteE h with ⟨k2, h⟩ | ⟨k2, h⟩
  ·obtain ⟨v1, k3, h⟩ := z0b h
   obtain rfl := retE h
   exact fin (ok X) 5 (bT 11 [.c (z13 v1), .b true]) (pR 6 k1 (pR 5 k2 (pA (ih_ast_Stmt__ast_sameStmt _ _ _ k3) (pA k2 pT)))) (by kernel_rfl)
  ·obtain rfl := retE h
   exact fin (ok X) 5 (bT 6 (bF 6 [])) (pR 6 k1 (pR 6 k2 pT)) (by kernel_rfl)
 ·obtain rfl := retE h
  exact fin (ok X) 5 (bF 12 []) (pR 6 k1 (pR 6 ff pT)) (by kernel_rfl)

theorem z6g : ∀ n : Nat, (∀ (a0 : (List z02)) (a1 : (List z02)) (r : Bool), z0p n a0 a1 = some r → Cv Tryz.prog (GX X) 39 [xL (List.map z0s a0), xL (List.map z0s a1), .fn (.func 40) [] []] (z13 r)) ∧ (∀ (a0 : z02) (a1 : z02) (r : Bool), z2n n a0 a1 = some r → Cv Tryz.prog (GX X) 40 [.agg (bs (z1m a0)), .agg (bs (z1m a1))] (z4s r)) ∧ (∀ (a0 : (List z0r)) (a1 : (List z0r)) (r : Bool), z14 n a0 a1 = some r → Cv Tryz.prog (GX X) 71 [xL (List.map z1j a0), xL (List.map z1j a1), .fn (.func 72) [] []] (z2m r)) ∧ (∀ (a0 : z0r) (a1 : z0r) (r : Bool), z34 n a0 a1 = some r → Cv Tryz.prog (GX X) 72 [.agg (bs (z4b a0)), .agg (bs (z4b a1))] (z58 r))
 | 0 => ⟨(fun _ _ _ h => by rw [z0p] at h; cases h), (fun _ _ _ h => by rw [z2n] at h; cases h), (fun _ _ _ h => by rw [z14] at h; cases h), (fun _ _ _ h => by rw [z34] at h; cases h)⟩
 | n + 1 => by
  have ih := z6g n
  exact ⟨z9k ih.1 ih.2.1 ih.2.2.1 ih.2.2.2, zfb ih.1 ih.2.1 ih.2.2.1 ih.2.2.2, zah ih.1 ih.2.1 ih.2.2.1 ih.2.2.2, zge ih.1 ih.2.1 ih.2.2.1 ih.2.2.2⟩

theorem z9l {a0 : (List z02)} {a1 : (List z02)} {r : Bool} (h : z5t a0 a1 = some r) : Cv Tryz.prog (GX X) 39 [xL (List.map z0s a0), xL (List.map z0s a1), .fn (.func 40) [] []] (z13 r) := by
 obtain ⟨n, hn⟩ := unfE h
 exact (z6g n).1 _ _ _ hn

theorem zhu {a0 : z2d} {a1 : z2d} {r : Bool} (h : zbf a0 a1 = some r) : Cv Tryz.prog (GX X) 37 [.agg (bs (z0j a0)), .agg (bs (z0j a1))] (zav r) := by
 refine Cs.toV (?_ : Cs Tryz.prog (GX X) 37 [.agg (bs (z0j a0)), .agg (bs (z0j a1))] [] (zav r) (zhr r)) (by kernel_rfl)
 refine fnT (cx := cx X) Tryz.f37 Tryz.call37 Tryz.func37 (by kernel_rfl) ?_
 unfold zbf at h
 rcases iteE h with ⟨k1, h⟩ | ⟨k1, h⟩
 ·obtain ⟨v1, k2, h⟩ := z0b h
  rcases iteE h with ⟨k3, h⟩ | ⟨k3, h⟩
  ·obtain ⟨v2, k4, h⟩ := z0b h
   obtain rfl := retE h
   exact fin (ok X) 5 (bT 5 (.c (z2q v1) :: bT 6 [.c (z13 v2), .b true])) (pR 5 k1 (pA (z4l (X := X) k2) (pA k1 (pR 5 k3 (pA (z9l (X := X) k4) (pA k3 pT)))))) (by kernel_rfl)
  ·obtain rfl := retE h
   exact fin (ok X) 5 (bT 5 (.c (z2q v1) :: .b true :: bF 6 [])) (pR 5 k1 (pA (z4l (X := X) k2) (pA k1 (pR 6 k3 pT)))) (by kernel_rfl)
 ·obtain rfl := retE h
  exact fin (ok X) 5 (bF 12 []) (pR 6 k1 (pR 6 ff pT)) (by kernel_rfl)

theorem zai {a0 : (List z2d)} {a1 : (List z2d)} {r : Bool} (h : z4p a0 a1 = some r) : Cv Tryz.prog (GX X) 36 [xL (List.map z0j a0), xL (List.map z0j a1), .fn (.func 37) [] []] (z52 r) := by
 refine Cs.toV (?_ : Cs Tryz.prog (GX X) 36 [xL (List.map z0j a0), xL (List.map z0j a1), .fn (.func 37) [] []] [] (z52 r) (z7l r)) (by kernel_rfl)
 refine fnT (cx := cx X) Tryz.f36 Tryz.call36 Tryz.func36 (by kernel_rfl) ?_
 unfold z4p at h
 refine adv (ok X) 5 [.i (a0.length : Int), .i (a1.length : Int)] (pA (lm z0j a0) (pA (lm z0j a1) pT)) (by kernel_rfl) ?_
 rcases iteE h with ⟨k1, h⟩ | ⟨k1, h⟩
 ·obtain rfl := retE h
  exact fin (ok X) 4 [.b true] (pA k1 pT) (by kernel_rfl)
 ·refine adv (ok X) 5 [.b false, .i (a0.length : Int)] (pA k1 (pA (lm z0j a0) pT)) (by kernel_rfl) ?_
  refine lp (ok X) (z3p a0 a1) (fun (x1 : Int) => ⟨32, 0, [(1, [xL (List.map z0j a1)]), (2, [.fn (.func 37) [] []]), (15, [xL (List.map z0j a0)]), (16, [xI (a0.length : Int)]), (17, [xI x1])], []⟩) (fun (j1 : Unit) => ⟨32, 0, [], []⟩) zad 0 (fun _ => ⟨_, _, _, _, rfl⟩) h (by kernel_rfl) (fun x1 o h => ?_) (fun r' h => ?_) (fun j1 h => ?_)
  ·unfold z3p at h
   rcases iteE h with ⟨k2, h⟩ | ⟨k2, h⟩
   ·obtain ⟨v1, k3, h⟩ := z0b h
    obtain ⟨v2, k4, h⟩ := z0b h
    obtain ⟨v3, k5, h⟩ := z0b h
    refine adv (ok X) 13 [.b true, .e (z0j v1), .e (z0j v2), .c (zav v3)] (pA k2 (pA (ixm z0j k3) (pA (ixm z0j k4) (pA (zhu (X := X) k5) pT)))) (by kernel_rfl) ?_
    rcases iteE h with ⟨k6, h⟩ | ⟨k6, h⟩
    ·obtain rfl := retE h
     exact fin (ok X) 4 [.b true] (pA k6 pT) (by kernel_rfl)
    ·obtain rfl := retE h
     exact fin (ok X) 4 [.b false] (pA k6 pT) (by kernel_rfl)
   ·obtain rfl := retE h
    exact fin (ok X) 5 [.b false] (pA k2 pT) (by kernel_rfl)
  ·obtain rfl := retE h
   kernel_rfl
  ·obtain rfl := retE h
   exact fin (ok X) 3 [] pT (by kernel_rfl)

theorem zfc {a0 : z27} {a1 : z27} {r : Bool} (h : z94 a0 a1 = some r) : Cv Tryz.prog (GX X) 42 [.agg (bs (z1l a0)), .agg (bs (z1l a1))] (z99 r) := by
 refine Cs.toV (?_ : Cs Tryz.prog (GX X) 42 [.agg (bs (z1l a0)), .agg (bs (z1l a1))] [] (z99 r) (zf8 r)) (by kernel_rfl)
 refine fnT (cx := cx X) Tryz.f42 Tryz.call42 Tryz.func42 (by kernel_rfl) ?_
 unfold z94 at h
 refine adv (ok X) 3 [] pT (by kernel_rfl) ?_
 refine jn (ok X) 1 (fun (j1 : Bool) => ⟨45, 0, [(4, [xB j1])], []⟩) h (fun j1 h => ?_) (fun j1 h => ?_)
 ·rcases iteE h with ⟨k1, h⟩ | ⟨k1, h⟩
  ·rcases iteE h with ⟨k2, h⟩ | ⟨k2, h⟩
   ·rcases iteE h with ⟨k3, h⟩ | ⟨k3, h⟩
    ·rcases iteE h with ⟨k4, h⟩ | ⟨k4, h⟩
     ·rcases iteE h with ⟨k5, h⟩ | ⟨k5, h⟩
      ·obtain ⟨v1, k6, h⟩ := z0b h
       obtain rfl := retE h
       exact fin (ok X) 1 (bT 29 [.c (z2q v1), .b true]) (pR 6 k1 (pR 6 k2 (pR 6 k3 (pR 6 k4 (pR 5 k5 (pA (z4l (X := X) k6) (pA k5 pT))))))) (by kernel_rfl)
      ·obtain rfl := retE h
       exact fin (ok X) 1 (bT 24 (bF 6 [])) (pR 6 k1 (pR 6 k2 (pR 6 k3 (pR 6 k4 (pR 6 k5 pT))))) (by kernel_rfl)
     ·obtain rfl := retE h
      exact fin (ok X) 1 (bT 18 (bF 12 [])) (pR 6 k1 (pR 6 k2 (pR 6 k3 (pR 6 k4 (pR 6 ff pT))))) (by kernel_rfl)
    ·obtain rfl := retE h
     exact fin (ok X) 1 (bT 12 (bF 18 [])) (pR 6 k1 (pR 6 k2 (pR 6 k3 (pR 12 ff pT)))) (by kernel_rfl)
   ·obtain rfl := retE h
    exact fin (ok X) 1 (bT 6 (bF 24 [])) (pR 6 k1 (pR 6 k2 (pR 18 ff pT))) (by kernel_rfl)
  ·obtain rfl := retE h
   exact fin (ok X) 1 (bF 30 []) (pR 6 k1 (pR 24 ff pT)) (by kernel_rfl)
 ·obtain rfl := retE h
  exact fin (ok X) 1 [] pT (by kernel_rfl)

theorem z9m {a0 : (List z27)} {a1 : (List z27)} {r : Bool} (h : z45 a0 a1 = some r) : Cv Tryz.prog (GX X) 41 [xL (List.map z1l a0), xL (List.map z1l a1), .fn (.func 42) [] []] (z4k r) := by
 refine Cs.toV (?_ : Cs Tryz.prog (GX X) 41 [xL (List.map z1l a0), xL (List.map z1l a1), .fn (.func 42) [] []] [] (z4k r) (z7d r)) (by kernel_rfl)
 refine fnT (cx := cx X) Tryz.f41 Tryz.call41 Tryz.func41 (by kernel_rfl) ?_
 unfold z45 at h
 refine adv (ok X) 5 [.i (a0.length : Int), .i (a1.length : Int)] (pA (lm z1l a0) (pA (lm z1l a1) pT)) (by kernel_rfl) ?_
 rcases iteE h with ⟨k1, h⟩ | ⟨k1, h⟩
 ·obtain rfl := retE h
  exact fin (ok X) 4 [.b true] (pA k1 pT) (by kernel_rfl)
 ·refine adv (ok X) 5 [.b false, .i (a0.length : Int)] (pA k1 (pA (lm z1l a0) pT)) (by kernel_rfl) ?_
  refine lp (ok X) (z3c a0 a1) (fun (x1 : Int) => ⟨32, 0, [(1, [xL (List.map z1l a1)]), (2, [.fn (.func 42) [] []]), (15, [xL (List.map z1l a0)]), (16, [xI (a0.length : Int)]), (17, [xI x1])], []⟩) (fun (j1 : Unit) => ⟨32, 0, [], []⟩) z9i 0 (fun _ => ⟨_, _, _, _, rfl⟩) h (by kernel_rfl) (fun x1 o h => ?_) (fun r' h => ?_) (fun j1 h => ?_)
  ·unfold z3c at h
   rcases iteE h with ⟨k2, h⟩ | ⟨k2, h⟩
   ·obtain ⟨v1, k3, h⟩ := z0b h
    obtain ⟨v2, k4, h⟩ := z0b h
    obtain ⟨v3, k5, h⟩ := z0b h
    refine adv (ok X) 13 [.b true, .e (z1l v1), .e (z1l v2), .c (z99 v3)] (pA k2 (pA (ixm z1l k3) (pA (ixm z1l k4) (pA (zfc (X := X) k5) pT)))) (by kernel_rfl) ?_
    rcases iteE h with ⟨k6, h⟩ | ⟨k6, h⟩
    ·obtain rfl := retE h
     exact fin (ok X) 4 [.b true] (pA k6 pT) (by kernel_rfl)
    ·obtain rfl := retE h
     exact fin (ok X) 4 [.b false] (pA k6 pT) (by kernel_rfl)
   ·obtain rfl := retE h
    exact fin (ok X) 5 [.b false] (pA k2 pT) (by kernel_rfl)
  ·obtain rfl := retE h
   kernel_rfl
  ·obtain rfl := retE h
   exact fin (ok X) 3 [] pT (by kernel_rfl)

theorem zfr {a0 : z1g} {a1 : z1g} {r : Bool} (h : za3 a0 a1 = some r) : Cv Tryz.prog (GX X) 12 [.agg (bs (z74 a0)), .agg (bs (z74 a1))] (zbg r) := by
 refine Cs.toV (?_ : Cs Tryz.prog (GX X) 12 [.agg (bs (z74 a0)), .agg (bs (z74 a1))] [] (zbg r) (zmb r)) (by kernel_rfl)
 refine fnT (cx := cx X) Tryz.f12 Tryz.call12 Tryz.func12 (by kernel_rfl) ?_
 unfold za3 at h
 obtain ⟨v1, k1, h⟩ := z0b h
 obtain ⟨v2, k2, h⟩ := z0b h
 refine adv (ok X) 7 [.c (z50 v1), .c (z52 v2)] (pA (zag (X := X) k1) (pA (zai (X := X) k2) pT)) (by kernel_rfl) ?_
 rcases iteE h with ⟨k3, h⟩ | ⟨k3, h⟩
 ·rcases iteE h with ⟨k4, h⟩ | ⟨k4, h⟩
  ·obtain ⟨v3, k5, h⟩ := z0b h
   obtain rfl := retE h
   exact fin (ok X) 2 (bT 7 [.c (z4k v3), .b true]) (pA k3 (pA k3 (pR 5 k4 (pA (z9m (X := X) k5) (pA k4 pT))))) (by kernel_rfl)
  ·obtain rfl := retE h
   exact fin (ok X) 2 (.b true :: .b true :: bF 6 []) (pA k3 (pA k3 (pR 6 k4 pT))) (by kernel_rfl)
 ·obtain rfl := retE h
  exact fin (ok X) 2 (bF 8 []) (pA k3 (pA k3 (pR 6 ff pT))) (by kernel_rfl)

theorem zdy {a0 : Int} {a1 : (List Int)} {r : Bool} (h : z7t a0 a1 = some r) : Cv Tryz.prog (GX X) 6 [xI a0, xL (List.map e_u8 a1)] (z87 r) := by
 refine Cs.toV (?_ : Cs Tryz.prog (GX X) 6 [xI a0, xL (List.map e_u8 a1)] [] (z87 r) (za8 r)) (by kernel_rfl)
 refine fnT (cx := cx X) Tryz.f6 Tryz.call6 Tryz.func6 (by kernel_rfl) ?_
 unfold z7t at h
 obtain ⟨v1, k1, h⟩ := z0b h
 refine adv (ok X) 17 [.i v1] (pA k1 pT) (by kernel_rfl) ?_
 refine lp (ok X) (z3w a1 v1) (fun (x1 : (ByteArray × Bool × Int × Int × Int × Int × (List z05) × Int × Int × (List z05))) => ⟨94, 0, [(1, [xL (List.map e_u8 a1)]), (5, [xI (IntKind.i64.wrap (1 + (IntKind.i64.wrap v1)))]), (6, [xS x1.1]), (7, [xP 0 0]), (8, [xP 1 0]), (9, [xB x1.2.1]), (10, [xI x1.2.2.1]), (11, [xI x1.2.2.2.1])], [oB 43 (bs (z4g (z05.mk x1.2.2.2.2.1 x1.2.2.2.2.2.1 (ByteArray.mk #[]) x1.2.2.2.2.2.2.1))), oB 43 (bs (z4g (z05.mk x1.2.2.2.2.2.2.2.1 x1.2.2.2.2.2.2.2.2.1 (ByteArray.mk #[]) x1.2.2.2.2.2.2.2.2.2)))]⟩) (fun (j1 : (ByteArray × Bool × Int × Int × Int × (List z05) × Int × Int × (List z05))) => ⟨94, 0, [(6, [xS j1.1]), (7, [xP 0 0]), (8, [xP 1 0]), (9, [xB j1.2.1]), (10, [xI j1.2.2.1])], [oB 43 (bs (z4g (z05.mk j1.2.2.2.1 j1.2.2.2.2.1 (ByteArray.mk #[]) j1.2.2.2.2.2.1))), oB 43 (bs (z4g (z05.mk j1.2.2.2.2.2.2.1 j1.2.2.2.2.2.2.2.1 (ByteArray.mk #[]) j1.2.2.2.2.2.2.2.2)))]⟩) zdx ((ByteArray.mk #[112, 114, 111, 99, 32, 112, 32, 123, 32, 120, 32, 61, 32, 49]), false, 0, 0, 1, 1, [], 0, 0, []) (fun _ => ⟨_, _, _, _, rfl⟩) h (by kernel_rfl) (fun x1 o h => ?_) (fun r' h => ?_) (fun j1 h => ?_)
 ·unfold z3w at h
  rcases iteE h with ⟨k2, h⟩ | ⟨k2, h⟩
  ·refine adv (ok X) 6 [.b true] (pA k2 pT) (by kernel_rfl) ?_
   refine jn (ok X) 1 (fun (j2 : (ByteArray × Bool × Int × Int × Int × (List z05) × Int × Int × (List z05))) => ⟨94, 0, [(1, [xL (List.map e_u8 a1)]), (5, [xI (IntKind.i64.wrap (1 + (IntKind.i64.wrap v1)))]), (6, [xS j2.1]), (7, [xP 0 0]), (8, [xP 1 0]), (9, [xB j2.2.1]), (10, [xI j2.2.2.1]), (11, [xI x1.2.2.2.1])], [oB 43 (bs (z4g (z05.mk j2.2.2.2.1 j2.2.2.2.2.1 (ByteArray.mk #[]) j2.2.2.2.2.2.1))), oB 43 (bs (z4g (z05.mk j2.2.2.2.2.2.2.1 j2.2.2.2.2.2.2.2.1 (ByteArray.mk #[]) j2.2.2.2.2.2.2.2.2)))]⟩) h (fun j2 h => ?_) (fun j2 h => ?_)
   ·refine adv (ok X) 6 [.i (a1.length : Int)] (pA (lm e_u8 a1) pT) (by kernel_rfl) ?_
    rcases iteE h with ⟨k3, h⟩ | ⟨k3, h⟩
    ·obtain ⟨v2, k4, h⟩ := z0b h
     obtain ⟨v3, k5, h⟩ := z0b h
     obtain ⟨v4, k6, h⟩ := z0b h
     obtain ⟨v5, k7, h⟩ := z0b h
     obtain ⟨v6, k8, h⟩ := z0b h
     refine adv (ok X) 9 [.b true, .e [.int .u8 v2], .i v3, .e [.str v4], .x [xS v5], .x [xS v6]] (pA k3 (pA (ixm e_u8 k4) (pA k5 (pA (ixm z4e k6) (pA k7 (pA k8 pT)))))) (by kernel_rfl) ?_
     rcases iteE h with ⟨k9, h⟩ | ⟨k9, h⟩
     ·obtain rfl := retE h
      exact fin (ok X) 4 [.b true, .bl (List.map z1f [(z05.mk x1.2.2.2.2.1 x1.2.2.2.2.2.1 (ByteArray.mk #[]) x1.2.2.2.2.2.2.1), (z05.mk 1 2 (ByteArray.mk #[]) [])])] (pA k9 (pA (blc (e := z1f) (x := (z05.mk x1.2.2.2.2.1 x1.2.2.2.2.2.1 (ByteArray.mk #[]) x1.2.2.2.2.2.2.1)) (z40 _).symm (blc (e := z1f) (x := (z05.mk 1 2 (ByteArray.mk #[]) [])) (z40 _).symm (bl0 z1f))) pT)) (by kernel_rfl)
     ·refine adv (ok X) 5 [.b false] (pA k9 pT) (by kernel_rfl) ?_
      rcases iteE h with ⟨k10, h⟩ | ⟨k10, h⟩
      ·obtain rfl := retE h
       exact fin (ok X) 4 [.b true, .bl (List.map z1f [(z05.mk x1.2.2.2.2.2.2.2.1 x1.2.2.2.2.2.2.2.2.1 (ByteArray.mk #[]) x1.2.2.2.2.2.2.2.2.2), (z05.mk x1.2.2.2.2.1 x1.2.2.2.2.2.1 (ByteArray.mk #[]) x1.2.2.2.2.2.2.1)]), .o [0, 1, 2, 3, 4, 5, 6, 7, 8]] (pA k10 (pA (blc (e := z1f) (x := (z05.mk x1.2.2.2.2.2.2.2.1 x1.2.2.2.2.2.2.2.2.1 (ByteArray.mk #[]) x1.2.2.2.2.2.2.2.2.2)) (z40 _).symm (blc (e := z1f) (x := (z05.mk x1.2.2.2.2.1 x1.2.2.2.2.2.1 (ByteArray.mk #[]) x1.2.2.2.2.2.2.1)) (z40 _).symm (bl0 z1f))) pT)) (by kernel_rfl)
      ·obtain rfl := retE h
       exact fin (ok X) 4 [.b false, .o [0, 1, 2, 3, 4, 5, 6, 7, 8]] (pA k10 pT) (by kernel_rfl)
    ·obtain ⟨v7, k11, h⟩ := z0b h
     obtain ⟨v8, k12, h⟩ := z0b h
     obtain ⟨v9, k13, h⟩ := z0b h
     refine adv (ok X) 9 [.b false, .e [.str v7], .x [xS v8], .x [xS v9]] (pA k3 (pA (ixm z4e k11) (pA k12 (pA k13 pT)))) (by kernel_rfl) ?_
     rcases iteE h with ⟨k14, h⟩ | ⟨k14, h⟩
     ·obtain rfl := retE h
      exact fin (ok X) 4 [.b true, .bl (List.map z1f [(z05.mk x1.2.2.2.2.1 x1.2.2.2.2.2.1 (ByteArray.mk #[]) x1.2.2.2.2.2.2.1), (z05.mk 1 2 (ByteArray.mk #[]) [])])] (pA k14 (pA (blc (e := z1f) (x := (z05.mk x1.2.2.2.2.1 x1.2.2.2.2.2.1 (ByteArray.mk #[]) x1.2.2.2.2.2.2.1)) (z40 _).symm (blc (e := z1f) (x := (z05.mk 1 2 (ByteArray.mk #[]) [])) (z40 _).symm (bl0 z1f))) pT)) (by kernel_rfl)
     ·refine adv (ok X) 5 [.b false] (pA k14 pT) (by kernel_rfl) ?_
      rcases iteE h with ⟨k15, h⟩ | ⟨k15, h⟩
      ·obtain rfl := retE h
       exact fin (ok X) 4 [.b true, .bl (List.map z1f [(z05.mk x1.2.2.2.2.2.2.2.1 x1.2.2.2.2.2.2.2.2.1 (ByteArray.mk #[]) x1.2.2.2.2.2.2.2.2.2), (z05.mk x1.2.2.2.2.1 x1.2.2.2.2.2.1 (ByteArray.mk #[]) x1.2.2.2.2.2.2.1)]), .o [0, 1, 2, 3, 4, 5, 6, 7, 8]] (pA k15 (pA (blc (e := z1f) (x := (z05.mk x1.2.2.2.2.2.2.2.1 x1.2.2.2.2.2.2.2.2.1 (ByteArray.mk #[]) x1.2.2.2.2.2.2.2.2.2)) (z40 _).symm (blc (e := z1f) (x := (z05.mk x1.2.2.2.2.1 x1.2.2.2.2.2.1 (ByteArray.mk #[]) x1.2.2.2.2.2.2.1)) (z40 _).symm (bl0 z1f))) pT)) (by kernel_rfl)
      ·obtain rfl := retE h
       exact fin (ok X) 4 [.b false, .o [0, 1, 2, 3, 4, 5, 6, 7, 8]] (pA k15 pT) (by kernel_rfl)
   ·obtain rfl := retE h
    exact fin (ok X) 1 [] pT (by kernel_rfl)
  ·obtain rfl := retE h
   exact fin (ok X) 5 [.b false] (pA k2 pT) (by kernel_rfl)
 ·cases h
 ·rcases iteE h with ⟨k16, h⟩ | ⟨k16, h⟩
  ·obtain ⟨v10, k17, h⟩ := z0b h
   obtain ⟨v11, k18, h⟩ := z0b h
   refine adv (ok X) 8 [.b true, .bl (List.map z1f [(z05.mk j1.2.2.2.2.2.2.1 j1.2.2.2.2.2.2.2.1 (ByteArray.mk #[]) j1.2.2.2.2.2.2.2.2), (z05.mk j1.2.2.2.1 j1.2.2.2.2.1 (ByteArray.mk #[]) j1.2.2.2.2.2.1)]), .x [xS v10], .c (z5l v11)] (pA k16 (pA (blc (e := z1f) (x := (z05.mk j1.2.2.2.2.2.2.1 j1.2.2.2.2.2.2.2.1 (ByteArray.mk #[]) j1.2.2.2.2.2.2.2.2)) (z40 _).symm (blc (e := z1f) (x := (z05.mk j1.2.2.2.1 j1.2.2.2.2.1 (ByteArray.mk #[]) j1.2.2.2.2.2.1)) (z40 _).symm (bl0 z1f))) (pA k17 (pA (z8e (X := X) k18) pT)))) (by kernel_rfl) ?_
   obtain ⟨v12, k19, h⟩ := z0b h
   rcases iteE h with ⟨k20, h⟩ | ⟨k20, h⟩
   ·rcases iteE h with ⟨k21, h⟩ | ⟨k21, h⟩
    ·obtain ⟨v13, k22, h⟩ := z0b h
     obtain ⟨v14, k23, h⟩ := z0b h
     obtain rfl := retE h
     exact fin (ok X) 2 (.o [0, 1, 2, 3, 4, 5, 6, 7, 8, 9, 10, 11, 12, 13, 14, 15, 16] :: .c (z5i v12) :: bT 7 (.bl (List.map z2o [(z0k.mk 1 (ByteArray.mk #[120]) (ByteArray.mk #[]) (z05.mk j1.2.2.1 0 (ByteArray.mk #[]) [(z05.mk j1.2.2.2.2.2.2.1 j1.2.2.2.2.2.2.2.1 (ByteArray.mk #[]) j1.2.2.2.2.2.2.2.2), (z05.mk j1.2.2.2.1 j1.2.2.2.2.1 (ByteArray.mk #[]) j1.2.2.2.2.2.1)]) (z4f.mk 0 (z05.mk 0 0 (ByteArray.mk #[]) []) (z05.mk 0 0 (ByteArray.mk #[]) [])) [] [] [])]) :: bT 4 [.c (z81 v13), .b true, .c (zbg v14), .b true])) (pA (z7e (X := X) k19) (pR 3 k20 (pR 4 k21 (pA (blc (e := z2o) (x := (z0k.mk 1 (ByteArray.mk #[120]) (ByteArray.mk #[]) (z05.mk j1.2.2.1 0 (ByteArray.mk #[]) [(z05.mk j1.2.2.2.2.2.2.1 j1.2.2.2.2.2.2.2.1 (ByteArray.mk #[]) j1.2.2.2.2.2.2.2.2), (z05.mk j1.2.2.2.1 j1.2.2.2.2.1 (ByteArray.mk #[]) j1.2.2.2.2.2.1)]) (z4f.mk 0 (z05.mk 0 0 (ByteArray.mk #[]) []) (z05.mk 0 0 (ByteArray.mk #[]) [])) [] [] [])) (z9y _).symm (bl0 z2o)) (pR 4 k21 (pA (zdr (X := X) k22) (pA k21 (pA (zfr (X := X) k23) (pA k21 pT))))))))) (by kernel_rfl)
    ·obtain rfl := retE h
     exact fin (ok X) 2 (.o [0, 1, 2, 3, 4, 5, 6, 7, 8, 9, 10, 11, 12, 13, 14, 15, 16] :: .c (z5i v12) :: bT 3 (bF 10 [])) (pA (z7e (X := X) k19) (pR 3 k20 (pR 10 k21 pT))) (by kernel_rfl)
   ·obtain rfl := retE h
    exact fin (ok X) 2 (.o [0, 1, 2, 3, 4, 5, 6, 7, 8, 9, 10, 11, 12, 13, 14, 15, 16] :: .c (z5i v12) :: bF 13 []) (pA (z7e (X := X) k19) (pR 3 k20 (pR 10 ff pT))) (by kernel_rfl)
  ·obtain ⟨v15, k24, h⟩ := z0b h
   obtain ⟨v16, k25, h⟩ := z0b h
   refine adv (ok X) 8 [.b false, .x [xS v15], .c (z5l v16)] (pA k16 (pA k24 (pA (z8e (X := X) k25) pT))) (by kernel_rfl) ?_
   obtain ⟨v17, k26, h⟩ := z0b h
   rcases iteE h with ⟨k27, h⟩ | ⟨k27, h⟩
   ·rcases iteE h with ⟨k28, h⟩ | ⟨k28, h⟩
    ·obtain ⟨v18, k29, h⟩ := z0b h
     obtain ⟨v19, k30, h⟩ := z0b h
     obtain rfl := retE h
     exact fin (ok X) 2 (.o [0, 1, 2, 3, 4, 5, 6, 7, 8, 9, 10, 11, 12, 13, 14, 15, 16] :: .c (z5i v17) :: bT 7 (.bl (List.map z2o [(z0k.mk 1 (ByteArray.mk #[120]) (ByteArray.mk #[]) (z05.mk j1.2.2.2.1 j1.2.2.2.2.1 (ByteArray.mk #[]) j1.2.2.2.2.2.1) (z4f.mk 0 (z05.mk 0 0 (ByteArray.mk #[]) []) (z05.mk 0 0 (ByteArray.mk #[]) [])) [] [] [])]) :: bT 4 [.c (z81 v18), .b true, .c (zbg v19), .b true])) (pA (z7e (X := X) k26) (pR 3 k27 (pR 4 k28 (pA (blc (e := z2o) (x := (z0k.mk 1 (ByteArray.mk #[120]) (ByteArray.mk #[]) (z05.mk j1.2.2.2.1 j1.2.2.2.2.1 (ByteArray.mk #[]) j1.2.2.2.2.2.1) (z4f.mk 0 (z05.mk 0 0 (ByteArray.mk #[]) []) (z05.mk 0 0 (ByteArray.mk #[]) [])) [] [] [])) (z9y _).symm (bl0 z2o)) (pR 4 k28 (pA (zdr (X := X) k29) (pA k28 (pA (zfr (X := X) k30) (pA k28 pT))))))))) (by kernel_rfl)
    ·obtain rfl := retE h
     exact fin (ok X) 2 (.o [0, 1, 2, 3, 4, 5, 6, 7, 8, 9, 10, 11, 12, 13, 14, 15, 16] :: .c (z5i v17) :: bT 3 (bF 10 [])) (pA (z7e (X := X) k26) (pR 3 k27 (pR 10 k28 pT))) (by kernel_rfl)
   ·obtain rfl := retE h
    exact fin (ok X) 2 (.o [0, 1, 2, 3, 4, 5, 6, 7, 8, 9, 10, 11, 12, 13, 14, 15, 16] :: .c (z5i v17) :: bF 13 []) (pA (z7e (X := X) k26) (pR 3 k27 (pR 10 ff pT))) (by kernel_rfl)
end Go.Proofs.YtokjbpmjdcbogaaGreatDoor.Abs

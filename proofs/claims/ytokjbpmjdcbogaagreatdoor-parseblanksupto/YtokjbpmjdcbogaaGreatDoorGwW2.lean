/- Gw: the functions are these. -/
import Derived.Test.YtokjbpmjdcbogaaGreatDoorGwW1
namespace Go.Proofs.YtokjbpmjdcbogaaGreatDoor.Abs
open Go Go.RowKit
set_option linter.unusedVariables false
set_option maxRecDepth 100000
set_option maxHeartbeats 4000000
variable {X : EV}
theorem zf2 {r : Bool} (h : zbq = some r) : Cv Tryz.prog (GX X) 11 [] (zb4 r) := by
 refine Cs.toV (?_ : Cs Tryz.prog (GX X) 11 [] [] (zb4 r) (zoa r)) (by kernel_rfl)
 refine fnT (cx := cx X) Tryz.f11 Tryz.call11 Tryz.func11 (by kernel_rfl) ?_
 unfold zbq at h
 obtain ⟨v1, k1, h⟩ := z06 h
 obtain ⟨v2, k2, h⟩ := z06 h
 refine adv (ok X) 7 [.c (z86 v1), .c (z86 v2)] (pA (ze0 (X := X) k1) (pA (ze0 (X := X) k2) pT)) (by kernel_rfl) ?_
 refine jn (ok X) 1 (fun (j1 : Bool) => ⟨82, 0, [(0, [xB j1])], []⟩) h (fun j1 h => ?_) (fun j1 h => ?_)
 ·rcases iteE h with ⟨k3, h⟩ | ⟨k3, h⟩
  ·rcases iteE h with ⟨k4, h⟩ | ⟨k4, h⟩
   ·obtain ⟨v3, k5, h⟩ := z06 h
    rcases iteE h with ⟨k6, h⟩ | ⟨k6, h⟩
    ·obtain ⟨v4, k7, h⟩ := z06 h
     obtain ⟨v5, k8, h⟩ := z06 h
     rcases iteE h with ⟨k9, h⟩ | ⟨k9, h⟩
     ·obtain ⟨v6, k10, h⟩ := z06 h
      obtain ⟨v7, k11, h⟩ := z06 h
      rcases iteE h with ⟨k12, h⟩ | ⟨k12, h⟩
      ·obtain ⟨v8, k13, h⟩ := z06 h
       obtain ⟨v9, k14, h⟩ := z06 h
       obtain ⟨v10, k15, h⟩ := z06 h
       rcases iteE h with ⟨k16, h⟩ | ⟨k16, h⟩
       ·rcases iteE h with ⟨k17, h⟩ | ⟨k17, h⟩
        ·obtain rfl := retE h
         exact fin (ok X) 1 (bT 3 (.i (v1.1.Procs.length : Int) :: bT 5 (.e (z0m v3) :: bT 3 (.i (v3.Body.length : Int) :: bT 5 (.e (z0m v4) :: bT 3 (.e (z1t v5) :: bT 8 (.e (z0m v6) :: bT 3 (.e (z1t v7) :: bT 4 (.i (v7.E.Kids.length : Int) :: bT 5 (.e (z0m v8) :: bT 3 (.e (z1t v9) :: bT 4 (.e (z2j v10) :: bT 10 [])))))))))))) (pR 3 k3 (pA (lm z0m v1.1.Procs) (pA k3 (pA k3 (pR 3 k4 (pA (ixm z0m k5) (pR 3 k4 (pA (lm z0u v3.Body) (pA k4 (pA k4 (pR 3 k6 (pA (ixm z0m k7) (pR 3 k6 (pA (ixr z3a k8) (pR 5 k6 (pR 3 k9 (pA (ixm z0m k10) (pR 3 k9 (pA (ixr z3a k11) (pR 4 k9 (pA (lm z0t v7.E.Kids) (pA k9 (pA k9 (pR 3 k12 (pA (ixm z0m k13) (pR 3 k12 (pA (ixr z3a k14) (pR 4 k12 (pA (ixr z4i k15) (pR 4 k12 (pR 3 k16 (pR 3 k17 pT)))))))))))))))))))))))))))))))) (by kernel_rfl)
        ·obtain rfl := retE h
         exact fin (ok X) 1 (bT 3 (.i (v1.1.Procs.length : Int) :: bT 5 (.e (z0m v3) :: bT 3 (.i (v3.Body.length : Int) :: bT 5 (.e (z0m v4) :: bT 3 (.e (z1t v5) :: bT 8 (.e (z0m v6) :: bT 3 (.e (z1t v7) :: bT 4 (.i (v7.E.Kids.length : Int) :: bT 5 (.e (z0m v8) :: bT 3 (.e (z1t v9) :: bT 4 (.e (z2j v10) :: bT 7 (bF 3 []))))))))))))) (pR 3 k3 (pA (lm z0m v1.1.Procs) (pA k3 (pA k3 (pR 3 k4 (pA (ixm z0m k5) (pR 3 k4 (pA (lm z0u v3.Body) (pA k4 (pA k4 (pR 3 k6 (pA (ixm z0m k7) (pR 3 k6 (pA (ixr z3a k8) (pR 5 k6 (pR 3 k9 (pA (ixm z0m k10) (pR 3 k9 (pA (ixr z3a k11) (pR 4 k9 (pA (lm z0t v7.E.Kids) (pA k9 (pA k9 (pR 3 k12 (pA (ixm z0m k13) (pR 3 k12 (pA (ixr z3a k14) (pR 4 k12 (pA (ixr z4i k15) (pR 4 k12 (pR 3 k16 (pR 3 k17 pT)))))))))))))))))))))))))))))))) (by kernel_rfl)
       ·obtain rfl := retE h
        exact fin (ok X) 1 (bT 3 (.i (v1.1.Procs.length : Int) :: bT 5 (.e (z0m v3) :: bT 3 (.i (v3.Body.length : Int) :: bT 5 (.e (z0m v4) :: bT 3 (.e (z1t v5) :: bT 8 (.e (z0m v6) :: bT 3 (.e (z1t v7) :: bT 4 (.i (v7.E.Kids.length : Int) :: bT 5 (.e (z0m v8) :: bT 3 (.e (z1t v9) :: bT 4 (.e (z2j v10) :: bT 4 (bF 6 []))))))))))))) (pR 3 k3 (pA (lm z0m v1.1.Procs) (pA k3 (pA k3 (pR 3 k4 (pA (ixm z0m k5) (pR 3 k4 (pA (lm z0u v3.Body) (pA k4 (pA k4 (pR 3 k6 (pA (ixm z0m k7) (pR 3 k6 (pA (ixr z3a k8) (pR 5 k6 (pR 3 k9 (pA (ixm z0m k10) (pR 3 k9 (pA (ixr z3a k11) (pR 4 k9 (pA (lm z0t v7.E.Kids) (pA k9 (pA k9 (pR 3 k12 (pA (ixm z0m k13) (pR 3 k12 (pA (ixr z3a k14) (pR 4 k12 (pA (ixr z4i k15) (pR 4 k12 (pR 3 k16 (pR 3 ff pT)))))))))))))))))))))))))))))))) (by kernel_rfl)
      ·obtain rfl := retE h
       exact fin (ok X) 1 (bT 3 (.i (v1.1.Procs.length : Int) :: bT 5 (.e (z0m v3) :: bT 3 (.i (v3.Body.length : Int) :: bT 5 (.e (z0m v4) :: bT 3 (.e (z1t v5) :: bT 8 (.e (z0m v6) :: bT 3 (.e (z1t v7) :: bT 4 (.i (v7.E.Kids.length : Int) :: .b true :: .b true :: bF 20 []))))))))) (pR 3 k3 (pA (lm z0m v1.1.Procs) (pA k3 (pA k3 (pR 3 k4 (pA (ixm z0m k5) (pR 3 k4 (pA (lm z0u v3.Body) (pA k4 (pA k4 (pR 3 k6 (pA (ixm z0m k7) (pR 3 k6 (pA (ixr z3a k8) (pR 5 k6 (pR 3 k9 (pA (ixm z0m k10) (pR 3 k9 (pA (ixr z3a k11) (pR 4 k9 (pA (lm z0t v7.E.Kids) (pA k9 (pA k9 (pR 14 k12 (pR 6 ff pT))))))))))))))))))))))))) (by kernel_rfl)
     ·obtain rfl := retE h
      exact fin (ok X) 1 (bT 3 (.i (v1.1.Procs.length : Int) :: bT 5 (.e (z0m v3) :: bT 3 (.i (v3.Body.length : Int) :: bT 5 (.e (z0m v4) :: bT 3 (.e (z1t v5) :: bT 5 (bF 32 []))))))) (pR 3 k3 (pA (lm z0m v1.1.Procs) (pA k3 (pA k3 (pR 3 k4 (pA (ixm z0m k5) (pR 3 k4 (pA (lm z0u v3.Body) (pA k4 (pA k4 (pR 3 k6 (pA (ixm z0m k7) (pR 3 k6 (pA (ixr z3a k8) (pR 5 k6 (pR 12 k9 (pR 20 ff pT))))))))))))))))) (by kernel_rfl)
    ·obtain rfl := retE h
     exact fin (ok X) 1 (bT 3 (.i (v1.1.Procs.length : Int) :: bT 5 (.e (z0m v3) :: bT 3 (.i (v3.Body.length : Int) :: .b true :: .b true :: bF 43 [])))) (pR 3 k3 (pA (lm z0m v1.1.Procs) (pA k3 (pA k3 (pR 3 k4 (pA (ixm z0m k5) (pR 3 k4 (pA (lm z0u v3.Body) (pA k4 (pA k4 (pR 11 k6 (pR 32 ff pT)))))))))))) (by kernel_rfl)
   ·obtain rfl := retE h
    exact fin (ok X) 1 (bT 3 (.i (v1.1.Procs.length : Int) :: .b true :: .b true :: bF 51 [])) (pR 3 k3 (pA (lm z0m v1.1.Procs) (pA k3 (pA k3 (pR 8 k4 (pR 43 ff pT)))))) (by kernel_rfl)
  ·obtain rfl := retE h
   exact fin (ok X) 1 (bF 56 []) (pR 5 k3 (pR 51 ff pT)) (by kernel_rfl)
 ·obtain rfl := retE h
  exact fin (ok X) 1 [] pT (by kernel_rfl)

theorem zue {n : Nat} (ih_l02_Expr : ∀ (a0 : z09) (r : z03), z8l n a0 = some r → Cv Tryz.prog (GX X) 73 [.agg (bs (z11 a0))] (z7d r)) (a0 : z09) (r : z03) (h : z8l (n + 1) a0 = some r) : Cv Tryz.prog (GX X) 73 [.agg (bs (z11 a0))] (z7d r) := by
 refine Cs.toV (?_ : Cs Tryz.prog (GX X) 73 [.agg (bs (z11 a0))] [] (z7d r) (zlj r)) (by kernel_rfl)
 refine fnT (cx := cx X) Tryz.f73 Tryz.call73 Tryz.func73 (by kernel_rfl) ?_
 rw [z8l] at h
 refine adv (ok X) 7 [] pT (by kernel_rfl) ?_
 refine lp (ok X) (zam (z8l n) a0) (fun (x1 : (Int × (List z03))) => ⟨29, 0, [(1, [xP 0 0]), (2, [xP 1 0]), (3, [xR 2]), (4, [xI x1.1])], [oB 43 (bs (z11 a0)), oB 103 [.pv (.int .i64 0), .pv (.int .i64 0), .pv (.str (ByteArray.mk #[])), .emp], oR true 103 4 (List.map z0t x1.2)]⟩) (fun (j1 : (List z03)) => ⟨29, 0, [(1, [xP 0 0]), (2, [xP 1 0]), (3, [xR 2])], [oB 43 (bs (z11 a0)), oB 103 [.pv (.int .i64 0), .pv (.int .i64 0), .pv (.str (ByteArray.mk #[])), .emp], oR true 103 4 (List.map z0t j1)]⟩) zu5 (0, []) (fun _ => ⟨_, _, _, _, rfl⟩) h (by kernel_rfl) (fun x1 o h => ?_) (fun r' h => ?_) (fun j1 h => ?_)
 ·unfold zam at h
  refine adv (ok X) 3 [.i (a0.Kids.length : Int)] (pA (lm z2u a0.Kids) pT) (by kernel_rfl) ?_
  rcases iteE h with ⟨k1, h⟩ | ⟨k1, h⟩
  ·obtain ⟨v1, k2, h⟩ := z06 h
   obtain ⟨v2, k3, h⟩ := z06 h
   obtain ⟨v3, k4, h⟩ := z06 h
   obtain rfl := retE h
   exact fin (ok X) 7 [.b true, .e (z11 v1), .c (z7d v2), .bl (List.map z0t [v2]), .l (List.map z0t v3)] (pA k1 (pA (ixr z25 k2) (pA (ih_l02_Expr _ _ k3) (pA (blc (e := z0t) (x := v2) (z4i _).symm (bl0 z0t)) (pA (apm (L := x1.2) (M := [v2]) zko k4) pT))))) (by kernel_rfl)
  ·obtain rfl := retE h
   exact fin (ok X) 2 [.b false] (pA k1 pT) (by kernel_rfl)
 ·cases h
 ·obtain rfl := retE h
  exact fin (ok X) 3 [] pT (by kernel_rfl)

theorem ziq : ∀ n : Nat, (∀ (a0 : z09) (r : z03), z8l n a0 = some r → Cv Tryz.prog (GX X) 73 [.agg (bs (z11 a0))] (z7d r))
 | 0 => (fun _ _ h => by rw [z8l] at h; cases h)
 | n + 1 => by
  have ih := ziq n
  exact zue ih

theorem zia {a0 : z09} {r : z03} (h : zhe a0 = some r) : Cv Tryz.prog (GX X) 73 [.agg (bs (z11 a0))] (z7d r) := by
 obtain ⟨n, hn⟩ := unfE h
 exact (ziq n) _ _ hn

theorem zuf {a0 : z3z} {r : z2n} (h : zhf a0 = some r) : Cv Tryz.prog (GX X) 74 [.agg (bs (z95 a0))] (zi6 r) := by
 refine Cs.toV (?_ : Cs Tryz.prog (GX X) 74 [.agg (bs (z95 a0))] [] (zi6 r) (zu6 r)) (by kernel_rfl)
 refine fnT (cx := cx X) Tryz.f74 Tryz.call74 Tryz.func74 (by kernel_rfl) ?_
 unfold zhf at h
 obtain ⟨v1, k1, h⟩ := z06 h
 obtain ⟨v2, k2, h⟩ := z06 h
 obtain rfl := retE h
 exact fin (ok X) 5 [.o [0, 1, 2, 3, 4, 5, 6, 7, 8, 9], .c (z7d v1), .c (z7d v2)] (pA (zia (X := X) k1) (pA (zia (X := X) k2) pT)) (by kernel_rfl)

theorem zqd {n : Nat} (ih_l02_Stmts : ∀ (a0 : (List z05)) (r : (List z02)), z6a n a0 = some r → Cv Tryz.prog (GX X) 43 [xL (List.map z0a a0)] (z6j r)) (a0 : (List z05)) (r : (List z02)) (h : z6a (n + 1) a0 = some r) : Cv Tryz.prog (GX X) 43 [xL (List.map z0a a0)] (z6j r) := by
 refine Cs.toV (?_ : Cs Tryz.prog (GX X) 43 [xL (List.map z0a a0)] [] (z6j r) (zk4 r)) (by kernel_rfl)
 refine fnT (cx := cx X) Tryz.f43 Tryz.call43 Tryz.func43 (by kernel_rfl) ?_
 rw [z6a] at h
 refine adv (ok X) 7 [] pT (by kernel_rfl) ?_
 refine lp (ok X) (z9r (z6a n) a0) (fun (x1 : (Int × (List z02))) => ⟨74, 0, [(0, [xL (List.map z0a a0)]), (3, [xR 0]), (4, [xI x1.1])], [oR true 108 19 (List.map z0u x1.2)]⟩) (fun (j1 : (List z02)) => ⟨74, 0, [(3, [xR 0])], [oR true 108 19 (List.map z0u j1)]⟩) zk5 (0, []) (fun _ => ⟨_, _, _, _, rfl⟩) h (by kernel_rfl) (fun x1 o h => ?_) (fun r' h => ?_) (fun j1 h => ?_)
 ·unfold z9r at h
  refine adv (ok X) 3 [.i (a0.length : Int)] (pA (lm z0a a0) pT) (by kernel_rfl) ?_
  rcases iteE h with ⟨k1, h⟩ | ⟨k1, h⟩
  ·obtain ⟨v1, k2, h⟩ := z06 h
   obtain ⟨v2, k3, h⟩ := z06 h
   obtain ⟨v3, k4, h⟩ := z06 h
   obtain ⟨v4, k5, h⟩ := z06 h
   obtain ⟨v5, k6, h⟩ := z06 h
   refine adv (ok X) 11 [.b true, .e (z7b v1), .o [0, 1, 2, 3, 4, 5, 6, 7, 8, 9, 10, 11, 12, 13, 14, 15, 16, 17, 18, 19, 20], .c (z7d v2), .c (zi6 v3), .c (z6j v4), .c (z6j v5)] (pA k1 (pA (ixr z7z k2) (pA (zia (X := X) k3) (pA (zuf (X := X) k4) (pA (ih_l02_Stmts _ _ k5) (pA (ih_l02_Stmts _ _ k6) pT)))))) (by kernel_rfl) ?_
   refine lp (ok X) (z9q (z6a n) v1) (fun (x2 : (Int × (List z0n))) => ⟨74, 0, [(0, [xL (List.map z0a a0)]), (3, [xR 0]), (4, [xI x1.1]), (5, [xP 1 0]), (6, [xP 2 0]), (7, [xI x2.1])], [oR true 108 19 (List.map z0u x1.2), oB 50 (bs (z7b v1)), oB 108 [.pv (.int .i64 v1.Kind), .pv (.str v1.Name), .pv (.str v1.Tag), .pv (.int .i64 v2.Kind), .pv (.int .i64 v2.Num), .pv (.str v2.Name), .pv (.sl (List.map z0t v2.Kids)), .pv (.int .i64 v3.Op), .pv (.int .i64 v3.L.Kind), .pv (.int .i64 v3.L.Num), .pv (.str v3.L.Name), .pv (.sl (List.map z0t v3.L.Kids)), .pv (.int .i64 v3.R.Kind), .pv (.int .i64 v3.R.Num), .pv (.str v3.R.Name), .pv (.sl (List.map z0t v3.R.Kids)), .pv (.sl (List.map z0u v4)), .pv (.sl (List.map z0u v5)), .row 3], oR true 156 3 (List.map z1q x2.2)]⟩) (fun (j2 : (List z0n)) => ⟨74, 0, [(0, [xL (List.map z0a a0)]), (3, [xR 0]), (4, [xI x1.1]), (6, [xP 2 0])], [oR true 108 19 (List.map z0u x1.2), none, oB 108 [.pv (.int .i64 v1.Kind), .pv (.str v1.Name), .pv (.str v1.Tag), .pv (.int .i64 v2.Kind), .pv (.int .i64 v2.Num), .pv (.str v2.Name), .pv (.sl (List.map z0t v2.Kids)), .pv (.int .i64 v3.Op), .pv (.int .i64 v3.L.Kind), .pv (.int .i64 v3.L.Num), .pv (.str v3.L.Name), .pv (.sl (List.map z0t v3.L.Kids)), .pv (.int .i64 v3.R.Kind), .pv (.int .i64 v3.R.Num), .pv (.str v3.R.Name), .pv (.sl (List.map z0t v3.R.Kids)), .pv (.sl (List.map z0u v4)), .pv (.sl (List.map z0u v5)), .row 3], oR true 156 3 (List.map z1q j2)]⟩) zk5 (0, []) (fun _ => ⟨_, _, _, _, rfl⟩) h (by kernel_rfl) (fun x2 o h => ?_) (fun r' h => ?_) (fun j2 h => ?_)
   ·unfold z9q at h
    refine adv (ok X) 3 [.i (v1.Arms.length : Int)] (pA (lm z6r v1.Arms) pT) (by kernel_rfl) ?_
    rcases iteE h with ⟨k7, h⟩ | ⟨k7, h⟩
    ·obtain ⟨v6, k8, h⟩ := z06 h
     obtain ⟨v7, k9, h⟩ := z06 h
     obtain ⟨v8, k10, h⟩ := z06 h
     obtain rfl := retE h
     exact fin (ok X) 7 [.b true, .o [0, 1, 2, 3, 4, 5, 6, 7, 8, 9, 10, 11, 12, 13, 14, 15, 16, 17, 18, 19, 20, 21, 22, 23, 24, 25], .e (z6s v6), .e (z6s v6), .e (z6s v6), .c (z6j v7), .bl (List.map z1q [(z0n.mk v6.Tag v6.Var v7)]), .l (List.map z1q v8)] (pA k7 (pA (ixr z40 k8) (pA (ixr z40 k8) (pA (ixr z40 k8) (pA (ih_l02_Stmts _ _ k9) (pA (blc (e := z1q) (x := (z0n.mk v6.Tag v6.Var v7)) (z96 _).symm (bl0 z1q)) (pA (apm (L := x2.2) (M := [(z0n.mk v6.Tag v6.Var v7)]) zdo k10) pT))))))) (by kernel_rfl)
    ·obtain rfl := retE h
     exact fin (ok X) 2 [.b false] (pA k7 pT) (by kernel_rfl)
   ·cases h
   ·obtain ⟨v9, k11, h⟩ := z06 h
    obtain rfl := retE h
    exact fin (ok X) 3 [.z (.fz 3), .bl (List.map z0u [(z02.mk v1.Kind v1.Name v1.Tag v2 v3 v4 v5 j2)]), .l (List.map z0u v9)] (pA (blc (e := z0u) (x := (z02.mk v1.Kind v1.Name v1.Tag v2 v3 v4 v5 j2)) (z3a _).symm (bl0 z0u)) (pA (apm (L := x1.2) (M := [(z02.mk v1.Kind v1.Name v1.Tag v2 v3 v4 v5 j2)]) zfv k11) pT)) (by kernel_rfl)
  ·obtain rfl := retE h
   exact fin (ok X) 2 [.b false] (pA k1 pT) (by kernel_rfl)
 ·cases h
 ·obtain rfl := retE h
  exact fin (ok X) 3 [] pT (by kernel_rfl)

theorem zhj : ∀ n : Nat, (∀ (a0 : (List z05)) (r : (List z02)), z6a n a0 = some r → Cv Tryz.prog (GX X) 43 [xL (List.map z0a a0)] (z6j r))
 | 0 => (fun _ _ h => by rw [z6a] at h; cases h)
 | n + 1 => by
  have ih := zhj n
  exact zqd ih

theorem zqe {a0 : (List z05)} {r : (List z02)} (h : zk6 a0 = some r) : Cv Tryz.prog (GX X) 43 [xL (List.map z0a a0)] (z6j r) := by
 obtain ⟨n, hn⟩ := unfE h
 exact (zhj n) _ _ hn

theorem zog {a0 : z16} {r : z18} (h : zd3 a0 = some r) : Cv Tryz.prog (GX X) 13 [.agg (bs (z0o a0))] (zci r) := by
 refine Cs.toV (?_ : Cs Tryz.prog (GX X) 13 [.agg (bs (z0o a0))] [] (zci r) (zin r)) (by kernel_rfl)
 refine fnT (cx := cx X) Tryz.f13 Tryz.call13 Tryz.func13 (by kernel_rfl) ?_
 unfold zd3 at h
 refine adv (ok X) 7 [] pT (by kernel_rfl) ?_
 refine lp (ok X) (z87 a0) (fun (x1 : (Int × (List z24))) => ⟨124, 0, [(1, [xP 0 0]), (2, [xP 1 0]), (3, [xP 2 0]), (4, [xI x1.1])], [oB 34 (bs (z0o a0)), oB 26 [.emp, .emp, .emp], oB 26 [.row 3, .emp, .emp], oR true 73 6 (List.map z1s x1.2)]⟩) (fun (j1 : (List z24)) => ⟨124, 0, [(1, [xP 0 0]), (2, [xP 1 0]), (3, [xP 2 0])], [oB 34 (bs (z0o a0)), oB 26 [.emp, .emp, .emp], oB 26 [.row 3, .emp, .emp], oR true 73 6 (List.map z1s j1)]⟩) zcj (0, []) (fun _ => ⟨_, _, _, _, rfl⟩) h (by kernel_rfl) (fun x1 o h => ?_) (fun r' h => ?_) (fun j1 h => ?_)
 ·unfold z87 at h
  refine adv (ok X) 3 [.i (a0.Chans.length : Int)] (pA (lm z4u a0.Chans) pT) (by kernel_rfl) ?_
  rcases iteE h with ⟨k1, h⟩ | ⟨k1, h⟩
  ·obtain ⟨v1, k2, h⟩ := z06 h
   obtain ⟨v2, k3, h⟩ := z06 h
   obtain ⟨v3, k4, h⟩ := z06 h
   obtain rfl := retE h
   exact fin (ok X) 9 [.b true, .e (z4u v1), .o [0, 1, 2, 3, 4, 5, 6, 7, 8, 9, 10, 11, 12, 13, 14, 15, 16, 17, 18, 19, 20], .cp (List.map z1d v2), .l (List.map z1s v3)] (pA k1 (pA (ixm z4u k2) (pA (apm z1e k3) (pA (apm (L := x1.2) (M := [(z24.mk v1.Name v1.Kind v1.Size v1.From v1.To v2)]) zfx k4) pT)))) (by kernel_rfl)
  ·obtain rfl := retE h
   exact fin (ok X) 2 [.b false] (pA k1 pT) (by kernel_rfl)
 ·cases h
 ·refine adv (ok X) 3 [] pT (by kernel_rfl) ?_
  refine lp (ok X) (z89 a0) (fun (x2 : (Int × (List z2c))) => ⟨124, 0, [(1, [xP 0 0]), (2, [xP 1 0]), (3, [xP 2 0]), (6, [xI x2.1])], [oB 34 (bs (z0o a0)), oB 26 [.emp, .emp, .emp], oB 26 [.row 3, .row 4, .emp], oR true 73 6 (List.map z1s j1), oR true 77 2 (List.map z2g x2.2)]⟩) (fun (j2 : (List z2c)) => ⟨124, 0, [(1, [xP 0 0]), (2, [xP 1 0]), (3, [xP 2 0])], [oB 34 (bs (z0o a0)), oB 26 [.emp, .emp, .emp], oB 26 [.row 3, .row 4, .emp], oR true 73 6 (List.map z1s j1), oR true 77 2 (List.map z2g j2)]⟩) zcj (0, []) (fun _ => ⟨_, _, _, _, rfl⟩) h (by kernel_rfl) (fun x2 o h => ?_) (fun r' h => ?_) (fun j2 h => ?_)
  ·unfold z89 at h
   refine adv (ok X) 3 [.i (a0.Rules.length : Int)] (pA (lm z3m a0.Rules) pT) (by kernel_rfl) ?_
   rcases iteE h with ⟨k5, h⟩ | ⟨k5, h⟩
   ·obtain ⟨v4, k6, h⟩ := z06 h
    refine adv (ok X) 9 [.b true, .e (z3m v4)] (pA k5 (pA (ixm z3m k6) pT)) (by kernel_rfl) ?_
    refine lp (ok X) (z88 a0 x2) (fun (x3 : (Int × (List z35))) => ⟨124, 0, [(1, [xP 0 0]), (2, [xP 1 0]), (3, [xP 2 0]), (6, [xI x2.1]), (7, [xP 5 0]), (8, [xI x3.1])], [oB 34 (bs (z0o a0)), oB 26 [.emp, .emp, .emp], oB 26 [.row 3, .row 4, .emp], oR true 73 6 (List.map z1s j1), oR true 77 2 (List.map z2g x2.2), oB 77 [.pv (.str v4.Chan), .row 6], oR true 111 3 (List.map z3r x3.2)]⟩) (fun (j3 : (List z35)) => ⟨124, 0, [(1, [xP 0 0]), (2, [xP 1 0]), (3, [xP 2 0]), (6, [xI x2.1]), (7, [xP 5 0])], [oB 34 (bs (z0o a0)), oB 26 [.emp, .emp, .emp], oB 26 [.row 3, .row 4, .emp], oR true 73 6 (List.map z1s j1), oR true 77 2 (List.map z2g x2.2), oB 77 [.pv (.str v4.Chan), .row 6], oR true 111 3 (List.map z3r j3)]⟩) zcj (0, []) (fun _ => ⟨_, _, _, _, rfl⟩) h (by kernel_rfl) (fun x3 o h => ?_) (fun r' h => ?_) (fun j3 h => ?_)
    ·unfold z88 at h
     obtain ⟨v5, k7, h⟩ := z06 h
     refine adv (ok X) 3 [.e (z3m v5), .i (v5.Moves.length : Int)] (pA (ixm z3m k7) (pA (lm z66 v5.Moves) pT)) (by kernel_rfl) ?_
     rcases iteE h with ⟨k8, h⟩ | ⟨k8, h⟩
     ·obtain ⟨v6, k9, h⟩ := z06 h
      obtain ⟨v7, k10, h⟩ := z06 h
      obtain ⟨v8, k11, h⟩ := z06 h
      obtain rfl := retE h
      exact fin (ok X) 9 [.b true, .e (z3m v6), .e (z66 v7), .l (List.map z3r v8)] (pA k8 (pA (ixm z3m k9) (pA (ixm z66 k10) (pA (apm (L := x3.2) (M := [(z35.mk v7.From v7.Tag v7.To)]) zfy k11) pT)))) (by kernel_rfl)
     ·obtain rfl := retE h
      exact fin (ok X) 2 [.b false] (pA k8 pT) (by kernel_rfl)
    ·cases h
    ·obtain ⟨v9, k12, h⟩ := z06 h
     obtain rfl := retE h
     exact fin (ok X) 3 [.z (.fz 6), .l (List.map z2g v9)] (pA (apm (L := x2.2) (M := [(z2c.mk v4.Chan j3)]) zfz k12) pT) (by kernel_rfl)
   ·obtain rfl := retE h
    exact fin (ok X) 2 [.b false] (pA k5 pT) (by kernel_rfl)
  ·cases h
  ·refine adv (ok X) 3 [] pT (by kernel_rfl) ?_
   refine lp (ok X) (z8a a0) (fun (x4 : (Int × (List z2d))) => ⟨124, 0, [(1, [xP 0 0]), (2, [xP 1 0]), (3, [xP 2 0]), (10, [xI x4.1])], [oB 34 (bs (z0o a0)), oB 26 [.emp, .emp, .emp], oB 26 [.row 3, .row 4, .row 5], oR true 73 6 (List.map z1s j1), oR true 77 2 (List.map z2g j2), oR true 81 3 (List.map z0m x4.2)]⟩) (fun (j4 : (List z2d)) => ⟨124, 0, [(2, [xP 1 0]), (3, [xP 2 0])], [none, oB 26 [.emp, .emp, .emp], oB 26 [.row 3, .row 4, .row 5], oR true 73 6 (List.map z1s j1), oR true 77 2 (List.map z2g j2), oR true 81 3 (List.map z0m j4)]⟩) zcj (0, []) (fun _ => ⟨_, _, _, _, rfl⟩) h (by kernel_rfl) (fun x4 o h => ?_) (fun r' h => ?_) (fun j4 h => ?_)
   ·unfold z8a at h
    refine adv (ok X) 3 [.i (a0.Procs.length : Int)] (pA (lm z48 a0.Procs) pT) (by kernel_rfl) ?_
    rcases iteE h with ⟨k13, h⟩ | ⟨k13, h⟩
    ·obtain ⟨v10, k14, h⟩ := z06 h
     obtain ⟨v11, k15, h⟩ := z06 h
     obtain ⟨v12, k16, h⟩ := z06 h
     obtain ⟨v13, k17, h⟩ := z06 h
     obtain rfl := retE h
     exact fin (ok X) 9 [.b true, .e (z48 v10), .o [0, 1, 2, 3, 4, 5, 6, 7, 8, 9, 10, 11, 12, 13, 14, 15], .cp (List.map z1d v11), .c (z6j v12), .l (List.map z0m v13)] (pA k13 (pA (ixm z48 k14) (pA (apm z1e k15) (pA (zqe (X := X) k16) (pA (apm (L := x4.2) (M := [(z2d.mk v10.Name v11 v12)]) zg0 k17) pT))))) (by kernel_rfl)
    ·obtain rfl := retE h
     exact fin (ok X) 2 [.b false] (pA k13 pT) (by kernel_rfl)
   ·cases h
   ·obtain rfl := retE h
    exact fin (ok X) 3 [] pT (by kernel_rfl)

theorem zqf {a0 : (List z35)} {a1 : (List z35)} {r : Bool} (h : zes a0 a1 = some r) : Cv Tryz.prog (GX X) 35 [xL (List.map z3r a0), xL (List.map z3r a1)] (zdz r) := by
 refine Cs.toV (?_ : Cs Tryz.prog (GX X) 35 [xL (List.map z3r a0), xL (List.map z3r a1)] [] (zdz r) (zk7 r)) (by kernel_rfl)
 refine fnT (cx := cx X) Tryz.f35 Tryz.call35 Tryz.func35 (by kernel_rfl) ?_
 unfold zes at h
 refine adv (ok X) 5 [.i (a0.length : Int), .i (a1.length : Int)] (pA (lm z3r a0) (pA (lm z3r a1) pT)) (by kernel_rfl) ?_
 rcases iteE h with ⟨k1, h⟩ | ⟨k1, h⟩
 ·obtain rfl := retE h
  exact fin (ok X) 4 [.b true] (pA k1 pT) (by kernel_rfl)
 ·refine adv (ok X) 5 [.b false, .i (a0.length : Int)] (pA k1 (pA (lm z3r a0) pT)) (by kernel_rfl) ?_
  refine lp (ok X) (z9s a0 a1) (fun (x1 : Int) => ⟨26, 0, [(0, [xL (List.map z3r a0)]), (1, [xL (List.map z3r a1)]), (12, [xI (a0.length : Int)]), (13, [xI x1])], []⟩) (fun (j1 : Unit) => ⟨26, 0, [], []⟩) zq4 0 (fun _ => ⟨_, _, _, _, rfl⟩) h (by kernel_rfl) (fun x1 o h => ?_) (fun r' h => ?_) (fun j1 h => ?_)
  ·unfold z9s at h
   rcases iteE h with ⟨k2, h⟩ | ⟨k2, h⟩
   ·obtain ⟨v1, k3, h⟩ := z06 h
    obtain ⟨v2, k4, h⟩ := z06 h
    refine adv (ok X) 11 [.b true, .o [0, 1, 2, 3, 4, 5, 6, 7, 8], .e (z3r v1), .e (z3r v2)] (pA k2 (pA (ixm z3r k3) (pA (ixm z3r k4) pT))) (by kernel_rfl) ?_
    rcases iteE h with ⟨k5, h⟩ | ⟨k5, h⟩
    ·obtain rfl := retE h
     exact fin (ok X) 4 [.b true] (pA k5 pT) (by kernel_rfl)
    ·obtain rfl := retE h
     exact fin (ok X) 4 [.b false] (pA k5 pT) (by kernel_rfl)
   ·obtain rfl := retE h
    exact fin (ok X) 5 [.b false] (pA k2 pT) (by kernel_rfl)
  ·obtain rfl := retE h
   kernel_rfl
  ·obtain rfl := retE h
   exact fin (ok X) 3 [] pT (by kernel_rfl)

theorem zoh {a0 : z2c} {a1 : z2c} {r : Bool} (h : zfi a0 a1 = some r) : Cv Tryz.prog (GX X) 34 [.agg (bs (z2g a0)), .agg (bs (z2g a1))] (zet r) := by
 refine Cs.toV (?_ : Cs Tryz.prog (GX X) 34 [.agg (bs (z2g a0)), .agg (bs (z2g a1))] [] (zet r) (zob r)) (by kernel_rfl)
 refine fnT (cx := cx X) Tryz.f34 Tryz.call34 Tryz.func34 (by kernel_rfl) ?_
 unfold zfi at h
 rcases iteE h with ⟨k1, h⟩ | ⟨k1, h⟩
 ·obtain ⟨v1, k2, h⟩ := z06 h
  obtain rfl := retE h
  exact fin (ok X) 5 (bT 5 [.c (zdz v1), .b true]) (pR 5 k1 (pA (zqf (X := X) k2) (pA k1 pT))) (by kernel_rfl)
 ·obtain rfl := retE h
  exact fin (ok X) 5 (bF 6 []) (pR 6 k1 pT) (by kernel_rfl)

theorem zee {a0 : (List z2c)} {a1 : (List z2c)} {r : Bool} (h : z5n a0 a1 = some r) : Cv Tryz.prog (GX X) 33 [xL (List.map z2g a0), xL (List.map z2g a1), .fn (.func 34) [] []] (z63 r) := by
 refine Cs.toV (?_ : Cs Tryz.prog (GX X) 33 [xL (List.map z2g a0), xL (List.map z2g a1), .fn (.func 34) [] []] [] (z63 r) (zaa r)) (by kernel_rfl)
 refine fnT (cx := cx X) Tryz.f33 Tryz.call33 Tryz.func33 (by kernel_rfl) ?_
 unfold z5n at h
 refine adv (ok X) 5 [.i (a0.length : Int), .i (a1.length : Int)] (pA (lm z2g a0) (pA (lm z2g a1) pT)) (by kernel_rfl) ?_
 rcases iteE h with ⟨k1, h⟩ | ⟨k1, h⟩
 ·obtain rfl := retE h
  exact fin (ok X) 4 [.b true] (pA k1 pT) (by kernel_rfl)
 ·refine adv (ok X) 5 [.b false, .i (a0.length : Int)] (pA k1 (pA (lm z2g a0) pT)) (by kernel_rfl) ?_
  refine lp (ok X) (z4b a0 a1) (fun (x1 : Int) => ⟨32, 0, [(1, [xL (List.map z2g a1)]), (2, [.fn (.func 34) [] []]), (15, [xL (List.map z2g a0)]), (16, [xI (a0.length : Int)]), (17, [xI x1])], []⟩) (fun (j1 : Unit) => ⟨32, 0, [], []⟩) ze9 0 (fun _ => ⟨_, _, _, _, rfl⟩) h (by kernel_rfl) (fun x1 o h => ?_) (fun r' h => ?_) (fun j1 h => ?_)
  ·unfold z4b at h
   rcases iteE h with ⟨k2, h⟩ | ⟨k2, h⟩
   ·obtain ⟨v1, k3, h⟩ := z06 h
    obtain ⟨v2, k4, h⟩ := z06 h
    obtain ⟨v3, k5, h⟩ := z06 h
    refine adv (ok X) 13 [.b true, .e (z2g v1), .e (z2g v2), .c (zet v3)] (pA k2 (pA (ixm z2g k3) (pA (ixm z2g k4) (pA (zoh (X := X) k5) pT)))) (by kernel_rfl) ?_
    rcases iteE h with ⟨k6, h⟩ | ⟨k6, h⟩
    ·obtain rfl := retE h
     exact fin (ok X) 4 [.b true] (pA k6 pT) (by kernel_rfl)
    ·obtain rfl := retE h
     exact fin (ok X) 4 [.b false] (pA k6 pT) (by kernel_rfl)
   ·obtain rfl := retE h
    exact fin (ok X) 5 [.b false] (pA k2 pT) (by kernel_rfl)
  ·obtain rfl := retE h
   kernel_rfl
  ·obtain rfl := retE h
   exact fin (ok X) 3 [] pT (by kernel_rfl)

theorem z5j {a0 : (List ByteArray)} {a1 : (List ByteArray)} {r : Bool} (h : z3n a0 a1 = some r) : Cv Tryz.prog (GX X) 38 [xL (List.map z1d a0), xL (List.map z1d a1)] (z38 r) := by
 refine Cs.toV (?_ : Cs Tryz.prog (GX X) 38 [xL (List.map z1d a0), xL (List.map z1d a1)] [] (z38 r) (z79 r)) (by kernel_rfl)
 refine fnT (cx := cx X) Tryz.f38 Tryz.call38 Tryz.func38 (by kernel_rfl) ?_
 unfold z3n at h
 refine adv (ok X) 5 [.i (a0.length : Int), .i (a1.length : Int)] (pA (lm z1d a0) (pA (lm z1d a1) pT)) (by kernel_rfl) ?_
 rcases iteE h with ⟨k1, h⟩ | ⟨k1, h⟩
 ·obtain rfl := retE h
  exact fin (ok X) 4 [.b true] (pA k1 pT) (by kernel_rfl)
 ·refine adv (ok X) 5 [.b false, .i (a0.length : Int)] (pA k1 (pA (lm z1d a0) pT)) (by kernel_rfl) ?_
  refine lp (ok X) (z34 a0 a1) (fun (x1 : Int) => ⟨26, 0, [(0, [xL (List.map z1d a0)]), (1, [xL (List.map z1d a1)]), (12, [xI (a0.length : Int)]), (13, [xI x1])], []⟩) (fun (j1 : Unit) => ⟨26, 0, [], []⟩) zb8 0 (fun _ => ⟨_, _, _, _, rfl⟩) h (by kernel_rfl) (fun x1 o h => ?_) (fun r' h => ?_) (fun j1 h => ?_)
  ·unfold z34 at h
   rcases iteE h with ⟨k2, h⟩ | ⟨k2, h⟩
   ·obtain ⟨v1, k3, h⟩ := z06 h
    obtain ⟨v2, k4, h⟩ := z06 h
    refine adv (ok X) 11 [.b true, .o [0, 1, 2, 3, 4, 5, 6, 7, 8], .e [.str v1], .e [.str v2]] (pA k2 (pA (ixm z1d k3) (pA (ixm z1d k4) pT))) (by kernel_rfl) ?_
    rcases iteE h with ⟨k5, h⟩ | ⟨k5, h⟩
    ·obtain rfl := retE h
     exact fin (ok X) 4 [.b true] (pA k5 pT) (by kernel_rfl)
    ·obtain rfl := retE h
     exact fin (ok X) 4 [.b false] (pA k5 pT) (by kernel_rfl)
   ·obtain rfl := retE h
    exact fin (ok X) 5 [.b false] (pA k2 pT) (by kernel_rfl)
  ·obtain rfl := retE h
   kernel_rfl
  ·obtain rfl := retE h
   exact fin (ok X) 3 [] pT (by kernel_rfl)

theorem zkx {n : Nat} (ih_ast_sameExpr : ∀ (a0 : z03) (a1 : z03) (r : Bool), z4c n a0 a1 = some r → Cv Tryz.prog (GX X) 69 [.agg (bs (z2j a0)), .agg (bs (z2j a1))] (z47 r)) (ih_ast_Expr__ast_sameExpr : ∀ (a0 : (List z03)) (a1 : (List z03)) (r : Bool), z1r n a0 a1 = some r → Cv Tryz.prog (GX X) 101 [xL (List.map z0t a0), xL (List.map z0t a1), .fn (.func 69) [] []] (z3o r)) (a0 : z03) (a1 : z03) (r : Bool) (h : z4c (n + 1) a0 a1 = some r) : Cv Tryz.prog (GX X) 69 [.agg (bs (z2j a0)), .agg (bs (z2j a1))] (z47 r) := by
 refine Cs.toV (?_ : Cs Tryz.prog (GX X) 69 [.agg (bs (z2j a0)), .agg (bs (z2j a1))] [] (z47 r) (zkr r)) (by kernel_rfl)
 refine fnT (cx := cx X) Tryz.f69 Tryz.call69 Tryz.func69 (by kernel_rfl) ?_
 rw [z4c] at h
 refine adv (ok X) 4 [] pT (by kernel_rfl) ?_
 refine jn (ok X) 1 (fun (j1 : Bool) => ⟨39, 0, [(2, [xP 0 0]), (3, [xP 1 0]), (33, [xB j1])], [oB 103 (bs (z2j a0)), oB 103 (bs (z2j a1))]⟩) h (fun j1 h => ?_) (fun j1 h => ?_)
 ·rcases iteE h with ⟨k1, h⟩ | ⟨k1, h⟩
  ·obtain rfl := retE h
   exact fin (ok X) 1 (bT 12 []) (pR 6 k1 (pR 6 tt pT)) (by kernel_rfl)
  ·rcases iteE h with ⟨k2, h⟩ | ⟨k2, h⟩
   ·rcases iteE h with ⟨k3, h⟩ | ⟨k3, h⟩
    ·obtain rfl := retE h
     exact fin (ok X) 1 (bF 4 (bT 5 (.b false :: .b true :: .b false :: bT 6 []))) (pR 4 k1 (pR 5 k2 (pA k1 (pA k2 (pA k1 (pR 6 k3 pT)))))) (by kernel_rfl)
    ·rcases iteE h with ⟨k4, h⟩ | ⟨k4, h⟩
     ·obtain rfl := retE h
      exact fin (ok X) 1 (bF 4 (bT 5 (.b false :: .b true :: bF 5 (bT 5 [.b false, .b true, .b false])))) (pR 4 k1 (pR 5 k2 (pA k1 (pA k2 (pA k1 (pR 4 k3 (pR 5 k4 (pA k3 (pA k4 (pA k3 pT)))))))))) (by kernel_rfl)
     ·obtain rfl := retE h
      exact fin (ok X) 1 (bF 4 (bT 5 (.b false :: .b true :: bF 13 []))) (pR 4 k1 (pR 5 k2 (pA k1 (pA k2 (pA k1 (pR 4 k3 (pR 5 k4 (pA k3 (pA k4 (pA k3 pT)))))))))) (by kernel_rfl)
   ·rcases iteE h with ⟨k5, h⟩ | ⟨k5, h⟩
    ·obtain rfl := retE h
     exact fin (ok X) 1 (bF 16 (bT 5 [.b false, .b true, .b false])) (pR 4 k1 (pR 5 k2 (pA k1 (pA k2 (pA k1 (pR 4 ff (pR 5 k5 (pA ff (pA k5 (pA ff pT)))))))))) (by kernel_rfl)
    ·obtain rfl := retE h
     exact fin (ok X) 1 (bF 24 []) (pR 4 k1 (pR 5 k2 (pA k1 (pA k2 (pA k1 (pR 4 ff (pR 5 k5 (pA ff (pA k5 (pA ff pT)))))))))) (by kernel_rfl)
 ·rcases iteE h with ⟨k6, h⟩ | ⟨k6, h⟩
  ·obtain rfl := retE h
   exact fin (ok X) 4 [.b true] (pA k6 pT) (by kernel_rfl)
  ·obtain ⟨v1, k7, h⟩ := z06 h
   obtain rfl := retE h
   exact fin (ok X) 5 [.b false, .c (z3o v1)] (pA k6 (pA (ih_ast_Expr__ast_sameExpr _ _ _ k7) pT)) (by kernel_rfl)

theorem zdb {n : Nat} (ih_ast_sameExpr : ∀ (a0 : z03) (a1 : z03) (r : Bool), z4c n a0 a1 = some r → Cv Tryz.prog (GX X) 69 [.agg (bs (z2j a0)), .agg (bs (z2j a1))] (z47 r)) (ih_ast_Expr__ast_sameExpr : ∀ (a0 : (List z03)) (a1 : (List z03)) (r : Bool), z1r n a0 a1 = some r → Cv Tryz.prog (GX X) 101 [xL (List.map z0t a0), xL (List.map z0t a1), .fn (.func 69) [] []] (z3o r)) (a0 : (List z03)) (a1 : (List z03)) (r : Bool) (h : z1r (n + 1) a0 a1 = some r) : Cv Tryz.prog (GX X) 101 [xL (List.map z0t a0), xL (List.map z0t a1), .fn (.func 69) [] []] (z3o r) := by
 refine Cs.toV (?_ : Cs Tryz.prog (GX X) 101 [xL (List.map z0t a0), xL (List.map z0t a1), .fn (.func 69) [] []] [] (z3o r) (z9t r)) (by kernel_rfl)
 refine fnT (cx := cx X) Tryz.f101 Tryz.call101 Tryz.func101 (by kernel_rfl) ?_
 rw [z1r] at h
 refine adv (ok X) 5 [.i (a0.length : Int), .i (a1.length : Int)] (pA (lm z0t a0) (pA (lm z0t a1) pT)) (by kernel_rfl) ?_
 rcases iteE h with ⟨k1, h⟩ | ⟨k1, h⟩
 ·obtain rfl := retE h
  exact fin (ok X) 4 [.b true] (pA k1 pT) (by kernel_rfl)
 ·refine adv (ok X) 5 [.b false, .i (a0.length : Int)] (pA k1 (pA (lm z0t a0) pT)) (by kernel_rfl) ?_
  refine lp (ok X) (z3u (z4c n) (z1r n) a0 a1) (fun (x1 : Int) => ⟨32, 0, [(1, [xL (List.map z0t a1)]), (2, [.fn (.func 69) [] []]), (15, [xL (List.map z0t a0)]), (16, [xI (a0.length : Int)]), (17, [xI x1])], []⟩) (fun (j1 : Unit) => ⟨32, 0, [], []⟩) zd4 0 (fun _ => ⟨_, _, _, _, rfl⟩) h (by kernel_rfl) (fun x1 o h => ?_) (fun r' h => ?_) (fun j1 h => ?_)
  ·unfold z3u at h
   rcases iteE h with ⟨k2, h⟩ | ⟨k2, h⟩
   ·obtain ⟨v1, k3, h⟩ := z06 h
    obtain ⟨v2, k4, h⟩ := z06 h
    obtain ⟨v3, k5, h⟩ := z06 h
    refine adv (ok X) 13 [.b true, .e (z2j v1), .e (z2j v2), .c (z47 v3)] (pA k2 (pA (ixr z4i k3) (pA (ixr z4i k4) (pA (ih_ast_sameExpr _ _ _ k5) pT)))) (by kernel_rfl) ?_
    rcases iteE h with ⟨k6, h⟩ | ⟨k6, h⟩
    ·obtain rfl := retE h
     exact fin (ok X) 4 [.b true] (pA k6 pT) (by kernel_rfl)
    ·obtain rfl := retE h
     exact fin (ok X) 4 [.b false] (pA k6 pT) (by kernel_rfl)
   ·obtain rfl := retE h
    exact fin (ok X) 5 [.b false] (pA k2 pT) (by kernel_rfl)
  ·obtain rfl := retE h
   kernel_rfl
  ·obtain rfl := retE h
   exact fin (ok X) 3 [] pT (by kernel_rfl)

theorem ze5 : ∀ n : Nat, (∀ (a0 : z03) (a1 : z03) (r : Bool), z4c n a0 a1 = some r → Cv Tryz.prog (GX X) 69 [.agg (bs (z2j a0)), .agg (bs (z2j a1))] (z47 r)) ∧ (∀ (a0 : (List z03)) (a1 : (List z03)) (r : Bool), z1r n a0 a1 = some r → Cv Tryz.prog (GX X) 101 [xL (List.map z0t a0), xL (List.map z0t a1), .fn (.func 69) [] []] (z3o r))
 | 0 => ⟨(fun _ _ _ h => by rw [z4c] at h; cases h), (fun _ _ _ h => by rw [z1r] at h; cases h)⟩
 | n + 1 => by
  have ih := ze5 n
  exact ⟨zkx ih.1 ih.2, zdb ih.1 ih.2⟩

theorem z8m {a0 : z03} {a1 : z03} {r : Bool} (h : z9u a0 a1 = some r) : Cv Tryz.prog (GX X) 69 [.agg (bs (z2j a0)), .agg (bs (z2j a1))] (z47 r) := by
 obtain ⟨n, hn⟩ := unfE h
 exact (ze5 n).1 _ _ _ hn

theorem z7e {a0 : z2n} {a1 : z2n} {r : Bool} (h : z7s a0 a1 = some r) : Cv Tryz.prog (GX X) 70 [.agg (bs (zbo a0)), .agg (bs (zbo a1))] (z5s r) := by
 refine Cs.toV (?_ : Cs Tryz.prog (GX X) 70 [.agg (bs (zbo a0)), .agg (bs (zbo a1))] [] (z5s r) (zks r)) (by kernel_rfl)
 refine fnT (cx := cx X) Tryz.f70 Tryz.call70 Tryz.func70 (by kernel_rfl) ?_
 unfold z7s at h
 rcases iteE h with ⟨k1, h⟩ | ⟨k1, h⟩
 ·obtain ⟨v1, k2, h⟩ := z06 h
  rcases iteE h with ⟨k3, h⟩ | ⟨k3, h⟩
  ·obtain ⟨v2, k4, h⟩ := z06 h
   obtain rfl := retE h
   exact fin (ok X) 5 (bT 5 (.c (z47 v1) :: bT 6 [.c (z47 v2), .b true])) (pR 5 k1 (pA (z8m (X := X) k2) (pA k1 (pR 5 k3 (pA (z8m (X := X) k4) (pA k3 pT)))))) (by kernel_rfl)
  ·obtain rfl := retE h
   exact fin (ok X) 5 (bT 5 (.c (z47 v1) :: .b true :: bF 6 [])) (pR 5 k1 (pA (z8m (X := X) k2) (pA k1 (pR 6 k3 pT)))) (by kernel_rfl)
 ·obtain rfl := retE h
  exact fin (ok X) 5 (bF 12 []) (pR 6 k1 (pR 6 ff pT)) (by kernel_rfl)

theorem zdc {n : Nat} (ih_ast_Stmt__ast_sameStmt : ∀ (a0 : (List z02)) (a1 : (List z02)) (r : Bool), z0s n a0 a1 = some r → Cv Tryz.prog (GX X) 39 [xL (List.map z0u a0), xL (List.map z0u a1), .fn (.func 40) [] []] (z17 r)) (ih_ast_sameStmt : ∀ (a0 : z02) (a1 : z02) (r : Bool), z33 n a0 a1 = some r → Cv Tryz.prog (GX X) 40 [.agg (bs (z1t a0)), .agg (bs (z1t a1))] (z5t r)) (ih_ast_Arm__ast_sameArm : ∀ (a0 : (List z0n)) (a1 : (List z0n)) (r : Bool), z19 n a0 a1 = some r → Cv Tryz.prog (GX X) 71 [xL (List.map z1q a0), xL (List.map z1q a1), .fn (.func 72) [] []] (z32 r)) (ih_ast_sameArm : ∀ (a0 : z0n) (a1 : z0n) (r : Bool), z3p n a0 a1 = some r → Cv Tryz.prog (GX X) 72 [.agg (bs (z57 a0)), .agg (bs (z57 a1))] (z6f r)) (a0 : (List z02)) (a1 : (List z02)) (r : Bool) (h : z0s (n + 1) a0 a1 = some r) : Cv Tryz.prog (GX X) 39 [xL (List.map z0u a0), xL (List.map z0u a1), .fn (.func 40) [] []] (z17 r) := by
 refine Cs.toV (?_ : Cs Tryz.prog (GX X) 39 [xL (List.map z0u a0), xL (List.map z0u a1), .fn (.func 40) [] []] [] (z17 r) (z9v r)) (by kernel_rfl)
 refine fnT (cx := cx X) Tryz.f39 Tryz.call39 Tryz.func39 (by kernel_rfl) ?_
 rw [z0s] at h
 refine adv (ok X) 5 [.i (a0.length : Int), .i (a1.length : Int)] (pA (lm z0u a0) (pA (lm z0u a1) pT)) (by kernel_rfl) ?_
 rcases iteE h with ⟨k1, h⟩ | ⟨k1, h⟩
 ·obtain rfl := retE h
  exact fin (ok X) 4 [.b true] (pA k1 pT) (by kernel_rfl)
 ·refine adv (ok X) 5 [.b false, .i (a0.length : Int)] (pA k1 (pA (lm z0u a0) pT)) (by kernel_rfl) ?_
  refine lp (ok X) (z3v (z0s n) (z33 n) (z19 n) (z3p n) a0 a1) (fun (x1 : Int) => ⟨32, 0, [(1, [xL (List.map z0u a1)]), (2, [.fn (.func 40) [] []]), (15, [xL (List.map z0u a0)]), (16, [xI (a0.length : Int)]), (17, [xI x1])], []⟩) (fun (j1 : Unit) => ⟨32, 0, [], []⟩) zd5 0 (fun _ => ⟨_, _, _, _, rfl⟩) h (by kernel_rfl) (fun x1 o h => ?_) (fun r' h => ?_) (fun j1 h => ?_)
  ·unfold z3v at h
   rcases iteE h with ⟨k2, h⟩ | ⟨k2, h⟩
   ·obtain ⟨v1, k3, h⟩ := z06 h
    obtain ⟨v2, k4, h⟩ := z06 h
    obtain ⟨v3, k5, h⟩ := z06 h
    refine adv (ok X) 13 [.b true, .e (z1t v1), .e (z1t v2), .c (z5t v3)] (pA k2 (pA (ixr z3a k3) (pA (ixr z3a k4) (pA (ih_ast_sameStmt _ _ _ k5) pT)))) (by kernel_rfl) ?_
    rcases iteE h with ⟨k6, h⟩ | ⟨k6, h⟩
    ·obtain rfl := retE h
     exact fin (ok X) 4 [.b true] (pA k6 pT) (by kernel_rfl)
    ·obtain rfl := retE h
     exact fin (ok X) 4 [.b false] (pA k6 pT) (by kernel_rfl)
   ·obtain rfl := retE h
    exact fin (ok X) 5 [.b false] (pA k2 pT) (by kernel_rfl)
  ·obtain rfl := retE h
   kernel_rfl
  ·obtain rfl := retE h
   exact fin (ok X) 3 [] pT (by kernel_rfl)

theorem zky {n : Nat} (ih_ast_Stmt__ast_sameStmt : ∀ (a0 : (List z02)) (a1 : (List z02)) (r : Bool), z0s n a0 a1 = some r → Cv Tryz.prog (GX X) 39 [xL (List.map z0u a0), xL (List.map z0u a1), .fn (.func 40) [] []] (z17 r)) (ih_ast_sameStmt : ∀ (a0 : z02) (a1 : z02) (r : Bool), z33 n a0 a1 = some r → Cv Tryz.prog (GX X) 40 [.agg (bs (z1t a0)), .agg (bs (z1t a1))] (z5t r)) (ih_ast_Arm__ast_sameArm : ∀ (a0 : (List z0n)) (a1 : (List z0n)) (r : Bool), z19 n a0 a1 = some r → Cv Tryz.prog (GX X) 71 [xL (List.map z1q a0), xL (List.map z1q a1), .fn (.func 72) [] []] (z32 r)) (ih_ast_sameArm : ∀ (a0 : z0n) (a1 : z0n) (r : Bool), z3p n a0 a1 = some r → Cv Tryz.prog (GX X) 72 [.agg (bs (z57 a0)), .agg (bs (z57 a1))] (z6f r)) (a0 : z02) (a1 : z02) (r : Bool) (h : z33 (n + 1) a0 a1 = some r) : Cv Tryz.prog (GX X) 40 [.agg (bs (z1t a0)), .agg (bs (z1t a1))] (z5t r) := by
 refine Cs.toV (?_ : Cs Tryz.prog (GX X) 40 [.agg (bs (z1t a0)), .agg (bs (z1t a1))] [] (z5t r) (zkt r)) (by kernel_rfl)
 refine fnT (cx := cx X) Tryz.f40 Tryz.call40 Tryz.func40 (by kernel_rfl) ?_
 rw [z33] at h
 rcases iteE h with ⟨k1, h⟩ | ⟨k1, h⟩
 ·obtain rfl := retE h
  exact fin (ok X) 9 [.b true] (pA k1 pT) (by kernel_rfl)
 ·refine adv (ok X) 13 [.b false] (pA k1 pT) (by kernel_rfl) ?_
  rcases iteE h with ⟨k2, h⟩ | ⟨k2, h⟩
  ·refine adv (ok X) 2 [.b true] (pA k2 pT) (by kernel_rfl) ?_
   refine jn (ok X) 1 (fun (j1 : Bool) => ⟨110, 0, [(4, [xB j1])], []⟩) h (fun j1 h => ?_) (fun j1 h => ?_)
   ·rcases iteE h with ⟨k3, h⟩ | ⟨k3, h⟩
    ·obtain ⟨v1, k4, h⟩ := z06 h
     obtain rfl := retE h
     exact fin (ok X) 1 (bT 5 [.c (z47 v1), .b true]) (pR 5 k3 (pA (z8m (X := X) k4) (pA k3 pT))) (by kernel_rfl)
    ·obtain rfl := retE h
     exact fin (ok X) 1 (bF 6 []) (pR 6 k3 pT) (by kernel_rfl)
   ·obtain rfl := retE h
    exact fin (ok X) 1 [] pT (by kernel_rfl)
  ·refine adv (ok X) 3 [.b false] (pA k2 pT) (by kernel_rfl) ?_
   rcases iteE h with ⟨k5, h⟩ | ⟨k5, h⟩
   ·refine adv (ok X) 2 [.b true] (pA k5 pT) (by kernel_rfl) ?_
    refine jn (ok X) 1 (fun (j2 : Bool) => ⟨110, 0, [(4, [xB j2])], []⟩) h (fun j2 h => ?_) (fun j2 h => ?_)
    ·obtain ⟨v2, k6, h⟩ := z06 h
     rcases iteE h with ⟨k7, h⟩ | ⟨k7, h⟩
     ·obtain ⟨v3, k8, h⟩ := z06 h
      rcases iteE h with ⟨k9, h⟩ | ⟨k9, h⟩
      ·obtain ⟨v4, k10, h⟩ := z06 h
       obtain rfl := retE h
       exact fin (ok X) 1 (.c (z5s v2) :: bT 5 (.c (z17 v3) :: bT 6 [.c (z17 v4), .b true])) (pA (z7e (X := X) k6) (pR 5 k7 (pA (ih_ast_Stmt__ast_sameStmt _ _ _ k8) (pA k7 (pR 5 k9 (pA (ih_ast_Stmt__ast_sameStmt _ _ _ k10) (pA k9 pT))))))) (by kernel_rfl)
      ·obtain rfl := retE h
       exact fin (ok X) 1 (.c (z5s v2) :: bT 5 (.c (z17 v3) :: .b true :: bF 6 [])) (pA (z7e (X := X) k6) (pR 5 k7 (pA (ih_ast_Stmt__ast_sameStmt _ _ _ k8) (pA k7 (pR 6 k9 pT))))) (by kernel_rfl)
     ·obtain rfl := retE h
      exact fin (ok X) 1 (.c (z5s v2) :: bF 12 []) (pA (z7e (X := X) k6) (pR 6 k7 (pR 6 ff pT))) (by kernel_rfl)
    ·obtain rfl := retE h
     exact fin (ok X) 1 [] pT (by kernel_rfl)
   ·refine adv (ok X) 3 [.b false] (pA k5 pT) (by kernel_rfl) ?_
    rcases iteE h with ⟨k11, h⟩ | ⟨k11, h⟩
    ·refine adv (ok X) 2 [.b true] (pA k11 pT) (by kernel_rfl) ?_
     refine jn (ok X) 1 (fun (j3 : Bool) => ⟨110, 0, [(4, [xB j3])], []⟩) h (fun j3 h => ?_) (fun j3 h => ?_)
     ·obtain ⟨v5, k12, h⟩ := z06 h
      rcases iteE h with ⟨k13, h⟩ | ⟨k13, h⟩
      ·obtain ⟨v6, k14, h⟩ := z06 h
       obtain rfl := retE h
       exact fin (ok X) 1 (.c (z5s v5) :: bT 5 [.c (z17 v6), .b true]) (pA (z7e (X := X) k12) (pR 5 k13 (pA (ih_ast_Stmt__ast_sameStmt _ _ _ k14) (pA k13 pT)))) (by kernel_rfl)
      ·obtain rfl := retE h
       exact fin (ok X) 1 (.c (z5s v5) :: bF 6 []) (pA (z7e (X := X) k12) (pR 6 k13 pT)) (by kernel_rfl)
     ·obtain rfl := retE h
      exact fin (ok X) 1 [] pT (by kernel_rfl)
    ·refine adv (ok X) 3 [.b false] (pA k11 pT) (by kernel_rfl) ?_
     rcases iteE h with ⟨k15, h⟩ | ⟨k15, h⟩
     ·refine adv (ok X) 2 [.b true] (pA k15 pT) (by kernel_rfl) ?_
      refine jn (ok X) 1 (fun (j4 : Bool) => ⟨110, 0, [(4, [xB j4])], []⟩) h (fun j4 h => ?_) (fun j4 h => ?_)
      ·rcases iteE h with ⟨k16, h⟩ | ⟨k16, h⟩
       ·rcases iteE h with ⟨k17, h⟩ | ⟨k17, h⟩
        ·obtain ⟨v7, k18, h⟩ := z06 h
         obtain rfl := retE h
         exact fin (ok X) 1 (bT 11 [.c (z47 v7), .b true]) (pR 6 k16 (pR 5 k17 (pA (z8m (X := X) k18) (pA k17 pT)))) (by kernel_rfl)
        ·obtain rfl := retE h
         exact fin (ok X) 1 (bT 6 (bF 6 [])) (pR 6 k16 (pR 6 k17 pT)) (by kernel_rfl)
       ·obtain rfl := retE h
        exact fin (ok X) 1 (bF 12 []) (pR 6 k16 (pR 6 ff pT)) (by kernel_rfl)
      ·obtain rfl := retE h
       exact fin (ok X) 1 [] pT (by kernel_rfl)
     ·refine adv (ok X) 3 [.b false] (pA k15 pT) (by kernel_rfl) ?_
      rcases iteE h with ⟨k19, h⟩ | ⟨k19, h⟩
      ·refine adv (ok X) 2 [.b true] (pA k19 pT) (by kernel_rfl) ?_
       refine jn (ok X) 1 (fun (j5 : Bool) => ⟨110, 0, [(4, [xB j5])], []⟩) h (fun j5 h => ?_) (fun j5 h => ?_)
       ·rcases iteE h with ⟨k20, h⟩ | ⟨k20, h⟩
        ·obtain ⟨v8, k21, h⟩ := z06 h
         obtain rfl := retE h
         exact fin (ok X) 1 (bT 5 [.c (z32 v8), .b true]) (pR 5 k20 (pA (ih_ast_Arm__ast_sameArm _ _ _ k21) (pA k20 pT))) (by kernel_rfl)
        ·obtain rfl := retE h
         exact fin (ok X) 1 (bF 6 []) (pR 6 k20 pT) (by kernel_rfl)
       ·obtain rfl := retE h
        exact fin (ok X) 1 [] pT (by kernel_rfl)
      ·refine adv (ok X) 3 [.b false] (pA k19 pT) (by kernel_rfl) ?_
       rcases iteE h with ⟨k22, h⟩ | ⟨k22, h⟩
       ·obtain ⟨v9, k23, h⟩ := z06 h
        obtain rfl := retE h
        exact fin (ok X) 4 [.b true, .c (z5s v9)] (pA k22 (pA (z7e (X := X) k23) pT)) (by kernel_rfl)
       ·refine adv (ok X) 3 [.b false] (pA k22 pT) (by kernel_rfl) ?_
        rcases iteE h with ⟨k24, h⟩ | ⟨k24, h⟩
        ·obtain rfl := retE h
         exact fin (ok X) 4 [.b true] (pA k24 pT) (by kernel_rfl)
        ·obtain rfl := retE h
         exact fin (ok X) 6 [.b false] (pA k24 pT) (by kernel_rfl)

theorem zef {n : Nat} (ih_ast_Stmt__ast_sameStmt : ∀ (a0 : (List z02)) (a1 : (List z02)) (r : Bool), z0s n a0 a1 = some r → Cv Tryz.prog (GX X) 39 [xL (List.map z0u a0), xL (List.map z0u a1), .fn (.func 40) [] []] (z17 r)) (ih_ast_sameStmt : ∀ (a0 : z02) (a1 : z02) (r : Bool), z33 n a0 a1 = some r → Cv Tryz.prog (GX X) 40 [.agg (bs (z1t a0)), .agg (bs (z1t a1))] (z5t r)) (ih_ast_Arm__ast_sameArm : ∀ (a0 : (List z0n)) (a1 : (List z0n)) (r : Bool), z19 n a0 a1 = some r → Cv Tryz.prog (GX X) 71 [xL (List.map z1q a0), xL (List.map z1q a1), .fn (.func 72) [] []] (z32 r)) (ih_ast_sameArm : ∀ (a0 : z0n) (a1 : z0n) (r : Bool), z3p n a0 a1 = some r → Cv Tryz.prog (GX X) 72 [.agg (bs (z57 a0)), .agg (bs (z57 a1))] (z6f r)) (a0 : (List z0n)) (a1 : (List z0n)) (r : Bool) (h : z19 (n + 1) a0 a1 = some r) : Cv Tryz.prog (GX X) 71 [xL (List.map z1q a0), xL (List.map z1q a1), .fn (.func 72) [] []] (z32 r) := by
 refine Cs.toV (?_ : Cs Tryz.prog (GX X) 71 [xL (List.map z1q a0), xL (List.map z1q a1), .fn (.func 72) [] []] [] (z32 r) (zab r)) (by kernel_rfl)
 refine fnT (cx := cx X) Tryz.f71 Tryz.call71 Tryz.func71 (by kernel_rfl) ?_
 rw [z19] at h
 refine adv (ok X) 5 [.i (a0.length : Int), .i (a1.length : Int)] (pA (lm z1q a0) (pA (lm z1q a1) pT)) (by kernel_rfl) ?_
 rcases iteE h with ⟨k1, h⟩ | ⟨k1, h⟩
 ·obtain rfl := retE h
  exact fin (ok X) 4 [.b true] (pA k1 pT) (by kernel_rfl)
 ·refine adv (ok X) 5 [.b false, .i (a0.length : Int)] (pA k1 (pA (lm z1q a0) pT)) (by kernel_rfl) ?_
  refine lp (ok X) (z4d (z0s n) (z33 n) (z19 n) (z3p n) a0 a1) (fun (x1 : Int) => ⟨32, 0, [(1, [xL (List.map z1q a1)]), (2, [.fn (.func 72) [] []]), (15, [xL (List.map z1q a0)]), (16, [xI (a0.length : Int)]), (17, [xI x1])], []⟩) (fun (j1 : Unit) => ⟨32, 0, [], []⟩) zea 0 (fun _ => ⟨_, _, _, _, rfl⟩) h (by kernel_rfl) (fun x1 o h => ?_) (fun r' h => ?_) (fun j1 h => ?_)
  ·unfold z4d at h
   rcases iteE h with ⟨k2, h⟩ | ⟨k2, h⟩
   ·obtain ⟨v1, k3, h⟩ := z06 h
    obtain ⟨v2, k4, h⟩ := z06 h
    obtain ⟨v3, k5, h⟩ := z06 h
    refine adv (ok X) 13 [.b true, .e (z57 v1), .e (z57 v2), .c (z6f v3)] (pA k2 (pA (ixr z96 k3) (pA (ixr z96 k4) (pA (ih_ast_sameArm _ _ _ k5) pT)))) (by kernel_rfl) ?_
    rcases iteE h with ⟨k6, h⟩ | ⟨k6, h⟩
    ·obtain rfl := retE h
     exact fin (ok X) 4 [.b true] (pA k6 pT) (by kernel_rfl)
    ·obtain rfl := retE h
     exact fin (ok X) 4 [.b false] (pA k6 pT) (by kernel_rfl)
   ·obtain rfl := retE h
    exact fin (ok X) 5 [.b false] (pA k2 pT) (by kernel_rfl)
  ·obtain rfl := retE h
   kernel_rfl
  ·obtain rfl := retE h
   exact fin (ok X) 3 [] pT (by kernel_rfl)

theorem zmc {n : Nat} (ih_ast_Stmt__ast_sameStmt : ∀ (a0 : (List z02)) (a1 : (List z02)) (r : Bool), z0s n a0 a1 = some r → Cv Tryz.prog (GX X) 39 [xL (List.map z0u a0), xL (List.map z0u a1), .fn (.func 40) [] []] (z17 r)) (ih_ast_sameStmt : ∀ (a0 : z02) (a1 : z02) (r : Bool), z33 n a0 a1 = some r → Cv Tryz.prog (GX X) 40 [.agg (bs (z1t a0)), .agg (bs (z1t a1))] (z5t r)) (ih_ast_Arm__ast_sameArm : ∀ (a0 : (List z0n)) (a1 : (List z0n)) (r : Bool), z19 n a0 a1 = some r → Cv Tryz.prog (GX X) 71 [xL (List.map z1q a0), xL (List.map z1q a1), .fn (.func 72) [] []] (z32 r)) (ih_ast_sameArm : ∀ (a0 : z0n) (a1 : z0n) (r : Bool), z3p n a0 a1 = some r → Cv Tryz.prog (GX X) 72 [.agg (bs (z57 a0)), .agg (bs (z57 a1))] (z6f r)) (a0 : z0n) (a1 : z0n) (r : Bool) (h : z3p (n + 1) a0 a1 = some r) : Cv Tryz.prog (GX X) 72 [.agg (bs (z57 a0)), .agg (bs (z57 a1))] (z6f r) := by
 refine Cs.toV (?_ : Cs Tryz.prog (GX X) 72 [.agg (bs (z57 a0)), .agg (bs (z57 a1))] [] (z6f r) (zmb r)) (by kernel_rfl)
 refine fnT (cx := cx X) Tryz.f72 Tryz.call72 Tryz.func72 (by kernel_rfl) ?_
 rw [z3p] at h
 rcases iteE h with ⟨k1, h⟩ | ⟨k1, h⟩
 ·rcases iteE h with ⟨k2, h⟩ | ⟨k2, h⟩
  ·obtain ⟨v1, k3, h⟩ := z06 h
   obtain rfl := retE h
   exact fin (ok X) 5 (bT 11 [.c (z17 v1), .b true]) (pR 6 k1 (pR 5 k2 (pA (ih_ast_Stmt__ast_sameStmt _ _ _ k3) (pA k2 pT)))) (by kernel_rfl)
  ·obtain rfl := retE h
   exact fin (ok X) 5 (bT 6 (bF 6 [])) (pR 6 k1 (pR 6 k2 pT)) (by kernel_rfl)
 ·obtain rfl := retE h
  exact fin (ok X) 5 (bF 12 []) (pR 6 k1 (pR 6 ff pT)) (by kernel_rfl)

theorem z8c : ∀ n : Nat, (∀ (a0 : (List z02)) (a1 : (List z02)) (r : Bool), z0s n a0 a1 = some r → Cv Tryz.prog (GX X) 39 [xL (List.map z0u a0), xL (List.map z0u a1), .fn (.func 40) [] []] (z17 r)) ∧ (∀ (a0 : z02) (a1 : z02) (r : Bool), z33 n a0 a1 = some r → Cv Tryz.prog (GX X) 40 [.agg (bs (z1t a0)), .agg (bs (z1t a1))] (z5t r)) ∧ (∀ (a0 : (List z0n)) (a1 : (List z0n)) (r : Bool), z19 n a0 a1 = some r → Cv Tryz.prog (GX X) 71 [xL (List.map z1q a0), xL (List.map z1q a1), .fn (.func 72) [] []] (z32 r)) ∧ (∀ (a0 : z0n) (a1 : z0n) (r : Bool), z3p n a0 a1 = some r → Cv Tryz.prog (GX X) 72 [.agg (bs (z57 a0)), .agg (bs (z57 a1))] (z6f r))
 | 0 => ⟨(fun _ _ _ h => by rw [z0s] at h; cases h), (fun _ _ _ h => by rw [z33] at h; cases h), (fun _ _ _ h => by rw [z19] at h; cases h), (fun _ _ _ h => by rw [z3p] at h; cases h)⟩
 | n + 1 => by
  have ih := z8c n
  exact ⟨zdc ih.1 ih.2.1 ih.2.2.1 ih.2.2.2, zky ih.1 ih.2.1 ih.2.2.1 ih.2.2.2, zef ih.1 ih.2.1 ih.2.2.1 ih.2.2.2, zmc ih.1 ih.2.1 ih.2.2.1 ih.2.2.2⟩

theorem zdd {a0 : (List z02)} {a1 : (List z02)} {r : Bool} (h : z7i a0 a1 = some r) : Cv Tryz.prog (GX X) 39 [xL (List.map z0u a0), xL (List.map z0u a1), .fn (.func 40) [] []] (z17 r) := by
 obtain ⟨n, hn⟩ := unfE h
 exact (z8c n).1 _ _ _ hn

theorem zoi {a0 : z2d} {a1 : z2d} {r : Bool} (h : zfj a0 a1 = some r) : Cv Tryz.prog (GX X) 37 [.agg (bs (z0m a0)), .agg (bs (z0m a1))] (zeu r) := by
 refine Cs.toV (?_ : Cs Tryz.prog (GX X) 37 [.agg (bs (z0m a0)), .agg (bs (z0m a1))] [] (zeu r) (zoc r)) (by kernel_rfl)
 refine fnT (cx := cx X) Tryz.f37 Tryz.call37 Tryz.func37 (by kernel_rfl) ?_
 unfold zfj at h
 rcases iteE h with ⟨k1, h⟩ | ⟨k1, h⟩
 ·obtain ⟨v1, k2, h⟩ := z06 h
  rcases iteE h with ⟨k3, h⟩ | ⟨k3, h⟩
  ·obtain ⟨v2, k4, h⟩ := z06 h
   obtain rfl := retE h
   exact fin (ok X) 5 (bT 5 (.c (z38 v1) :: bT 6 [.c (z17 v2), .b true])) (pR 5 k1 (pA (z5j (X := X) k2) (pA k1 (pR 5 k3 (pA (zdd (X := X) k4) (pA k3 pT)))))) (by kernel_rfl)
  ·obtain rfl := retE h
   exact fin (ok X) 5 (bT 5 (.c (z38 v1) :: .b true :: bF 6 [])) (pR 5 k1 (pA (z5j (X := X) k2) (pA k1 (pR 6 k3 pT)))) (by kernel_rfl)
 ·obtain rfl := retE h
  exact fin (ok X) 5 (bF 12 []) (pR 6 k1 (pR 6 ff pT)) (by kernel_rfl)

theorem zeg {a0 : (List z2d)} {a1 : (List z2d)} {r : Bool} (h : z5o a0 a1 = some r) : Cv Tryz.prog (GX X) 36 [xL (List.map z0m a0), xL (List.map z0m a1), .fn (.func 37) [] []] (z64 r) := by
 refine Cs.toV (?_ : Cs Tryz.prog (GX X) 36 [xL (List.map z0m a0), xL (List.map z0m a1), .fn (.func 37) [] []] [] (z64 r) (zac r)) (by kernel_rfl)
 refine fnT (cx := cx X) Tryz.f36 Tryz.call36 Tryz.func36 (by kernel_rfl) ?_
 unfold z5o at h
 refine adv (ok X) 5 [.i (a0.length : Int), .i (a1.length : Int)] (pA (lm z0m a0) (pA (lm z0m a1) pT)) (by kernel_rfl) ?_
 rcases iteE h with ⟨k1, h⟩ | ⟨k1, h⟩
 ·obtain rfl := retE h
  exact fin (ok X) 4 [.b true] (pA k1 pT) (by kernel_rfl)
 ·refine adv (ok X) 5 [.b false, .i (a0.length : Int)] (pA k1 (pA (lm z0m a0) pT)) (by kernel_rfl) ?_
  refine lp (ok X) (z4e a0 a1) (fun (x1 : Int) => ⟨32, 0, [(1, [xL (List.map z0m a1)]), (2, [.fn (.func 37) [] []]), (15, [xL (List.map z0m a0)]), (16, [xI (a0.length : Int)]), (17, [xI x1])], []⟩) (fun (j1 : Unit) => ⟨32, 0, [], []⟩) zeb 0 (fun _ => ⟨_, _, _, _, rfl⟩) h (by kernel_rfl) (fun x1 o h => ?_) (fun r' h => ?_) (fun j1 h => ?_)
  ·unfold z4e at h
   rcases iteE h with ⟨k2, h⟩ | ⟨k2, h⟩
   ·obtain ⟨v1, k3, h⟩ := z06 h
    obtain ⟨v2, k4, h⟩ := z06 h
    obtain ⟨v3, k5, h⟩ := z06 h
    refine adv (ok X) 13 [.b true, .e (z0m v1), .e (z0m v2), .c (zeu v3)] (pA k2 (pA (ixm z0m k3) (pA (ixm z0m k4) (pA (zoi (X := X) k5) pT)))) (by kernel_rfl) ?_
    rcases iteE h with ⟨k6, h⟩ | ⟨k6, h⟩
    ·obtain rfl := retE h
     exact fin (ok X) 4 [.b true] (pA k6 pT) (by kernel_rfl)
    ·obtain rfl := retE h
     exact fin (ok X) 4 [.b false] (pA k6 pT) (by kernel_rfl)
   ·obtain rfl := retE h
    exact fin (ok X) 5 [.b false] (pA k2 pT) (by kernel_rfl)
  ·obtain rfl := retE h
   kernel_rfl
  ·obtain rfl := retE h
   exact fin (ok X) 3 [] pT (by kernel_rfl)

theorem zkz {a0 : z24} {a1 : z24} {r : Bool} (h : zck a0 a1 = some r) : Cv Tryz.prog (GX X) 42 [.agg (bs (z1s a0)), .agg (bs (z1s a1))] (zcr r) := by
 refine Cs.toV (?_ : Cs Tryz.prog (GX X) 42 [.agg (bs (z1s a0)), .agg (bs (z1s a1))] [] (zcr r) (zku r)) (by kernel_rfl)
 refine fnT (cx := cx X) Tryz.f42 Tryz.call42 Tryz.func42 (by kernel_rfl) ?_
 unfold zck at h
 refine adv (ok X) 3 [] pT (by kernel_rfl) ?_
 refine jn (ok X) 1 (fun (j1 : Bool) => ⟨45, 0, [(4, [xB j1])], []⟩) h (fun j1 h => ?_) (fun j1 h => ?_)
 ·rcases iteE h with ⟨k1, h⟩ | ⟨k1, h⟩
  ·rcases iteE h with ⟨k2, h⟩ | ⟨k2, h⟩
   ·rcases iteE h with ⟨k3, h⟩ | ⟨k3, h⟩
    ·rcases iteE h with ⟨k4, h⟩ | ⟨k4, h⟩
     ·rcases iteE h with ⟨k5, h⟩ | ⟨k5, h⟩
      ·obtain ⟨v1, k6, h⟩ := z06 h
       obtain rfl := retE h
       exact fin (ok X) 1 (bT 29 [.c (z38 v1), .b true]) (pR 6 k1 (pR 6 k2 (pR 6 k3 (pR 6 k4 (pR 5 k5 (pA (z5j (X := X) k6) (pA k5 pT))))))) (by kernel_rfl)
      ·obtain rfl := retE h
       exact fin (ok X) 1 (bT 24 (bF 6 [])) (pR 6 k1 (pR 6 k2 (pR 6 k3 (pR 6 k4 (pR 6 k5 pT))))) (by kernel_rfl)
     ·obtain rfl := retE h
      exact fin (ok X) 1 (bT 18 (bF 12 [])) (pR 6 k1 (pR 6 k2 (pR 6 k3 (pR 6 k4 (pR 6 ff pT))))) (by kernel_rfl)
    ·obtain rfl := retE h
     exact fin (ok X) 1 (bT 12 (bF 18 [])) (pR 6 k1 (pR 6 k2 (pR 6 k3 (pR 12 ff pT)))) (by kernel_rfl)
   ·obtain rfl := retE h
    exact fin (ok X) 1 (bT 6 (bF 24 [])) (pR 6 k1 (pR 6 k2 (pR 18 ff pT))) (by kernel_rfl)
  ·obtain rfl := retE h
   exact fin (ok X) 1 (bF 30 []) (pR 6 k1 (pR 24 ff pT)) (by kernel_rfl)
 ·obtain rfl := retE h
  exact fin (ok X) 1 [] pT (by kernel_rfl)

theorem zde {a0 : (List z24)} {a1 : (List z24)} {r : Bool} (h : z50 a0 a1 = some r) : Cv Tryz.prog (GX X) 41 [xL (List.map z1s a0), xL (List.map z1s a1), .fn (.func 42) [] []] (z5h r) := by
 refine Cs.toV (?_ : Cs Tryz.prog (GX X) 41 [xL (List.map z1s a0), xL (List.map z1s a1), .fn (.func 42) [] []] [] (z5h r) (z9w r)) (by kernel_rfl)
 refine fnT (cx := cx X) Tryz.f41 Tryz.call41 Tryz.func41 (by kernel_rfl) ?_
 unfold z50 at h
 refine adv (ok X) 5 [.i (a0.length : Int), .i (a1.length : Int)] (pA (lm z1s a0) (pA (lm z1s a1) pT)) (by kernel_rfl) ?_
 rcases iteE h with ⟨k1, h⟩ | ⟨k1, h⟩
 ·obtain rfl := retE h
  exact fin (ok X) 4 [.b true] (pA k1 pT) (by kernel_rfl)
 ·refine adv (ok X) 5 [.b false, .i (a0.length : Int)] (pA k1 (pA (lm z1s a0) pT)) (by kernel_rfl) ?_
  refine lp (ok X) (z3w a0 a1) (fun (x1 : Int) => ⟨32, 0, [(1, [xL (List.map z1s a1)]), (2, [.fn (.func 42) [] []]), (15, [xL (List.map z1s a0)]), (16, [xI (a0.length : Int)]), (17, [xI x1])], []⟩) (fun (j1 : Unit) => ⟨32, 0, [], []⟩) zd6 0 (fun _ => ⟨_, _, _, _, rfl⟩) h (by kernel_rfl) (fun x1 o h => ?_) (fun r' h => ?_) (fun j1 h => ?_)
  ·unfold z3w at h
   rcases iteE h with ⟨k2, h⟩ | ⟨k2, h⟩
   ·obtain ⟨v1, k3, h⟩ := z06 h
    obtain ⟨v2, k4, h⟩ := z06 h
    obtain ⟨v3, k5, h⟩ := z06 h
    refine adv (ok X) 13 [.b true, .e (z1s v1), .e (z1s v2), .c (zcr v3)] (pA k2 (pA (ixm z1s k3) (pA (ixm z1s k4) (pA (zkz (X := X) k5) pT)))) (by kernel_rfl) ?_
    rcases iteE h with ⟨k6, h⟩ | ⟨k6, h⟩
    ·obtain rfl := retE h
     exact fin (ok X) 4 [.b true] (pA k6 pT) (by kernel_rfl)
    ·obtain rfl := retE h
     exact fin (ok X) 4 [.b false] (pA k6 pT) (by kernel_rfl)
   ·obtain rfl := retE h
    exact fin (ok X) 5 [.b false] (pA k2 pT) (by kernel_rfl)
  ·obtain rfl := retE h
   kernel_rfl
  ·obtain rfl := retE h
   exact fin (ok X) 3 [] pT (by kernel_rfl)

theorem zug {a0 : z18} {a1 : z18} {r : Bool} (h : zhg a0 a1 = some r) : Cv Tryz.prog (GX X) 12 [.agg (bs (z97 a0)), .agg (bs (z97 a1))] (zi7 r) := by
 refine Cs.toV (?_ : Cs Tryz.prog (GX X) 12 [.agg (bs (z97 a0)), .agg (bs (z97 a1))] [] (zi7 r) (zu7 r)) (by kernel_rfl)
 refine fnT (cx := cx X) Tryz.f12 Tryz.call12 Tryz.func12 (by kernel_rfl) ?_
 unfold zhg at h
 obtain ⟨v1, k1, h⟩ := z06 h
 obtain ⟨v2, k2, h⟩ := z06 h
 refine adv (ok X) 7 [.c (z63 v1), .c (z64 v2)] (pA (zee (X := X) k1) (pA (zeg (X := X) k2) pT)) (by kernel_rfl) ?_
 rcases iteE h with ⟨k3, h⟩ | ⟨k3, h⟩
 ·rcases iteE h with ⟨k4, h⟩ | ⟨k4, h⟩
  ·obtain ⟨v3, k5, h⟩ := z06 h
   obtain rfl := retE h
   exact fin (ok X) 2 (bT 7 [.c (z5h v3), .b true]) (pA k3 (pA k3 (pR 5 k4 (pA (zde (X := X) k5) (pA k4 pT))))) (by kernel_rfl)
  ·obtain rfl := retE h
   exact fin (ok X) 2 (.b true :: .b true :: bF 6 []) (pA k3 (pA k3 (pR 6 k4 pT))) (by kernel_rfl)
 ·obtain rfl := retE h
  exact fin (ok X) 2 (bF 8 []) (pA k3 (pA k3 (pR 6 ff pT))) (by kernel_rfl)

theorem zib {a0 : z16} {a1 : (List Int)} {r : Bool} (h : za3 a0 a1 = some r) : Cv Tryz.prog (GX X) 7 [.agg (bs (z0o a0)), xL (List.map e_u8 a1)] (zan r) := by
 refine Cs.toV (?_ : Cs Tryz.prog (GX X) 7 [.agg (bs (z0o a0)), xL (List.map e_u8 a1)] [] (zan r) (zd7 r)) (by kernel_rfl)
 refine fnT (cx := cx X) Tryz.f7 Tryz.call7 Tryz.func7 (by kernel_rfl) ?_
 unfold za3 at h
 obtain ⟨v1, k1, h⟩ := z06 h
 refine adv (ok X) 6 [.c (zdv v1)] (pA (zqb (X := X) k1) pT) (by kernel_rfl) ?_
 refine jn (ok X) 1 (fun (j1 : Bool) => ⟨65, 0, [(1, [xL (List.map e_u8 a1)]), (2, [xP 0 0]), (5, [xL (List.map z1d v1.1)]), (23, [xB j1])], [oB 34 (bs (z0o a0))]⟩) h (fun j1 h => ?_) (fun j1 h => ?_)
 ·obtain ⟨v2, k2, h⟩ := z06 h
  rcases iteE h with ⟨k3, h⟩ | ⟨k3, h⟩
  ·obtain rfl := retE h
   exact fin (ok X) 1 (.c (zb4 v2) :: bT 3 []) (pA (zf2 (X := X) k2) (pR 3 k3 pT)) (by kernel_rfl)
  ·obtain rfl := retE h
   exact fin (ok X) 1 (.c (zb4 v2) :: bF 3 []) (pA (zf2 (X := X) k2) (pR 3 k3 pT)) (by kernel_rfl)
 ·rcases iteE h with ⟨k4, h⟩ | ⟨k4, h⟩
  ·obtain ⟨v3, k5, h⟩ := z06 h
   obtain rfl := retE h
   exact fin (ok X) 4 [.b true, .c (zb4 v3)] (pA k4 (pA (zf2 (X := X) k5) pT)) (by kernel_rfl)
  ·refine adv (ok X) 7 [.b false] (pA k4 pT) (by kernel_rfl) ?_
   refine lp (ok X) (z4g a1 v1) (fun (x2 : (ByteArray × Int)) => ⟨65, 0, [(1, [xL (List.map e_u8 a1)]), (2, [xP 0 0]), (5, [xL (List.map z1d v1.1)]), (7, [xS x2.1]), (8, [xI x2.2])], [oB 34 (bs (z0o a0))]⟩) (fun (j2 : ByteArray) => ⟨65, 0, [(2, [xP 0 0]), (7, [xS j2])], [oB 34 (bs (z0o a0))]⟩) zi8 ((ByteArray.mk #[]), 0) (fun _ => ⟨_, _, _, _, rfl⟩) h (by kernel_rfl) (fun x2 o h => ?_) (fun r' h => ?_) (fun j2 h => ?_)
   ·unfold z4g at h
    refine adv (ok X) 3 [.i (v1.1.length : Int)] (pA (lm z1d v1.1) pT) (by kernel_rfl) ?_
    rcases iteE h with ⟨k6, h⟩ | ⟨k6, h⟩
    ·refine adv (ok X) 3 [.b true] (pA k6 pT) (by kernel_rfl) ?_
     refine jn (ok X) 1 (fun (j3 : ByteArray) => ⟨65, 0, [(1, [xL (List.map e_u8 a1)]), (2, [xP 0 0]), (5, [xL (List.map z1d v1.1)]), (7, [xS j3]), (8, [xI x2.2])], [oB 34 (bs (z0o a0))]⟩) h (fun j3 h => ?_) (fun j3 h => ?_)
     ·refine adv (ok X) 6 [.i (a1.length : Int)] (pA (lm e_u8 a1) pT) (by kernel_rfl) ?_
      rcases iteE h with ⟨k7, h⟩ | ⟨k7, h⟩
      ·obtain ⟨v4, k8, h⟩ := z06 h
       obtain ⟨v5, k9, h⟩ := z06 h
       obtain ⟨v6, k10, h⟩ := z06 h
       obtain ⟨v7, k11, h⟩ := z06 h
       obtain ⟨v8, k12, h⟩ := z06 h
       obtain ⟨v9, k13, h⟩ := z06 h
       obtain rfl := retE h
       exact fin (ok X) 4 [.b true, .e [.int .u8 v4], .o [0, 1, 2, 3, 4, 5, 6, 7, 8, 9, 10, 11, 12], .e [.str v5], .x [xS v6], .i v7, .e [.str v8], .x [xS v9]] (pA k7 (pA (ixm e_u8 k8) (pA (ixm z1d k9) (pA k10 (pA k11 (pA (ixm z1d k12) (pA k13 pT))))))) (by kernel_rfl)
      ·obtain ⟨v10, k14, h⟩ := z06 h
       obtain ⟨v11, k15, h⟩ := z06 h
       obtain ⟨v12, k16, h⟩ := z06 h
       obtain ⟨v13, k17, h⟩ := z06 h
       obtain ⟨v14, k18, h⟩ := z06 h
       obtain rfl := retE h
       exact fin (ok X) 4 [.b false, .o [0, 1, 2, 3, 4, 5, 6, 7, 8, 9, 10, 11, 12], .e [.str v10], .x [xS v11], .i v12, .e [.str v13], .x [xS v14]] (pA k7 (pA (ixm z1d k14) (pA k15 (pA k16 (pA (ixm z1d k17) (pA k18 pT)))))) (by kernel_rfl)
     ·obtain rfl := retE h
      exact fin (ok X) 1 [] pT (by kernel_rfl)
    ·obtain rfl := retE h
     exact fin (ok X) 2 [.b false] (pA k6 pT) (by kernel_rfl)
   ·cases h
   ·obtain ⟨v15, k19, h⟩ := z06 h
    refine adv (ok X) 3 [.c (z86 v15)] (pA (ze0 (X := X) k19) pT) (by kernel_rfl) ?_
    rcases iteE h with ⟨k20, h⟩ | ⟨k20, h⟩
    ·obtain ⟨v16, k21, h⟩ := z06 h
     obtain ⟨v17, k22, h⟩ := z06 h
     obtain rfl := retE h
     exact fin (ok X) 2 (.o [0, 1, 2, 3, 4, 5, 6, 7, 8] :: bT 3 [.c (zci v16), .b true, .c (zi7 v17), .b true]) (pR 3 k20 (pA (zog (X := X) k21) (pA k20 (pA (zug (X := X) k22) (pA k20 pT))))) (by kernel_rfl)
    ·obtain rfl := retE h
     exact fin (ok X) 2 (.o [0, 1, 2, 3, 4, 5, 6, 7, 8] :: bF 5 []) (pR 5 k20 pT) (by kernel_rfl)
end Go.Proofs.YtokjbpmjdcbogaaGreatDoor.Abs

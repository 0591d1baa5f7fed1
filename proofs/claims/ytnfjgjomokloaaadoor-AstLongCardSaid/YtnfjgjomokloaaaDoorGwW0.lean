/- Gw: the functions are these. -/
import Derived.Test.YtnfjgjomokloaaaDoorGwF
namespace Go.Proofs.YtnfjgjomokloaaaDoor.Abs
open Go Go.RowKit
set_option linter.unusedVariables false
set_option maxRecDepth 100000
set_option maxHeartbeats 4000000
variable {X : EV}
theorem znn {a0 : Int} {r : ByteArray} (h : itoa a0 = some r) : Cv Tryd.prog (GX X) 31 [xI a0] (zkp r) := zid h
theorem zk0 {a0 : ByteArray} {r : Int × Int} (h : za0 a0 = some r) : Cv Tryd.prog (GX X) 28 [xS a0] (zf2 r) := zdv h
theorem zie {a0 : ByteArray} {a1 : Int} {r : Int} (h : zdt a0 a1 = some r) : Cv Tryd.prog (GX X) 36 [xS a0, .c (.pv (.int .u8 a1))] (zds r) := zge h
theorem zgf {n : Nat} (ih_l02_Expr : ∀ (a0 : z07) (r : z06), z3o n a0 = some r → Cv Tryd.prog (GX X) 22 [.agg (bs (z3x a0))] (z2x r)) (a0 : z07) (r : z06) (h : z3o (n + 1) a0 = some r) : Cv Tryd.prog (GX X) 22 [.agg (bs (z3x a0))] (z2x r) := by
 refine Cs.toV (?_ : Cs Tryd.prog (GX X) 22 [.agg (bs (z3x a0))] [] (z2x r) (zav r)) (by kernel_rfl)
 refine fnT (cx := cx X) Tryd.f22 Tryd.call22 Tryd.func22 (by kernel_rfl) ?_
 rw [z3o] at h
 refine adv (ok X) 7 [] pT (by kernel_rfl) ?_
 refine lp (ok X) (z48 (z3o n) a0) (fun (x1 : (Int × (List z06))) => ⟨29, 0, [(1, [xP 0 0]), (2, [xP 1 0]), (3, [xR 2]), (4, [xI x1.1])], [oB 34 (bs (z3x a0)), oB 102 [.pv (.int .i64 0), .pv (.int .i64 0), .pv (.str (ByteArray.mk #[])), .emp], oR true 102 4 (List.map z0x x1.2)]⟩) (fun (j1 : (List z06)) => ⟨29, 0, [(1, [xP 0 0]), (2, [xP 1 0]), (3, [xR 2])], [oB 34 (bs (z3x a0)), oB 102 [.pv (.int .i64 0), .pv (.int .i64 0), .pv (.str (ByteArray.mk #[])), .emp], oR true 102 4 (List.map z0x j1)]⟩) zg9 (0, []) (fun _ => ⟨_, _, _, _, rfl⟩) h (by kernel_rfl) (fun x1 o h => ?_) (fun r' h => ?_) (fun j1 h => ?_)
 ·unfold z48 at h
  refine adv (ok X) 3 [.i (a0.Kids.length : Int)] (pA (lm z18 a0.Kids) pT) (by kernel_rfl) ?_
  rcases iteE h with ⟨k1, h⟩ | ⟨k1, h⟩
  ·obtain ⟨v1, k2, h⟩ := z0b h
   obtain ⟨v2, k3, h⟩ := z0b h
   obtain ⟨v3, k4, h⟩ := z0b h
   obtain rfl := retE h
   exact fin (ok X) 7 [.b true, .e (z3x v1), .c (z2x v2), .bl (List.map z0x [v2]), .l (List.map z0x v3)] (pA k1 (pA (ixr z43 k2) (pA (ih_l02_Expr _ _ k3) (pA (blc (e := z0x) (x := v2) (z3b _).symm (bl0 z0x)) (pA (apm (L := x1.2) (M := [v2]) zac k4) pT))))) (by kernel_rfl)
  ·obtain rfl := retE h
   exact fin (ok X) 2 [.b false] (pA k1 pT) (by kernel_rfl)
 ·cases h
 ·obtain rfl := retE h
  exact fin (ok X) 3 [] pT (by kernel_rfl)

theorem z8z : ∀ n : Nat, (∀ (a0 : z07) (r : z06), z3o n a0 = some r → Cv Tryd.prog (GX X) 22 [.agg (bs (z3x a0))] (z2x r))
 | 0 => (fun _ _ h => by rw [z3o] at h; cases h)
 | n + 1 => by
  have ih := z8z n
  exact zgf ih

theorem z8n {a0 : z07} {r : z06} (h : z7n a0 = some r) : Cv Tryd.prog (GX X) 22 [.agg (bs (z3x a0))] (z2x r) := by
 obtain ⟨n, hn⟩ := unfE h
 exact (z8z n) _ _ hn

theorem zgg {a0 : z1u} {r : z2q} (h : z7o a0 = some r) : Cv Tryd.prog (GX X) 23 [.agg (bs (zau a0))] (z8g r) := by
 refine Cs.toV (?_ : Cs Tryd.prog (GX X) 23 [.agg (bs (zau a0))] [] (z8g r) (zga r)) (by kernel_rfl)
 refine fnT (cx := cx X) Tryd.f23 Tryd.call23 Tryd.func23 (by kernel_rfl) ?_
 unfold z7o at h
 obtain ⟨v1, k1, h⟩ := z0b h
 obtain ⟨v2, k2, h⟩ := z0b h
 obtain rfl := retE h
 exact fin (ok X) 5 [.o [0, 1, 2, 3, 4, 5, 6, 7, 8, 9], .c (z2x v1), .c (z2x v2)] (pA (z8n (X := X) k1) (pA (z8n (X := X) k2) pT)) (by kernel_rfl)

theorem zdw {n : Nat} (ih_l02_Stmts : ∀ (a0 : (List z0c)) (r : (List z05)), z2k n a0 = some r → Cv Tryd.prog (GX X) 13 [xL (List.map z0u a0)] (z2o r)) (a0 : (List z0c)) (r : (List z05)) (h : z2k (n + 1) a0 = some r) : Cv Tryd.prog (GX X) 13 [xL (List.map z0u a0)] (z2o r) := by
 refine Cs.toV (?_ : Cs Tryd.prog (GX X) 13 [xL (List.map z0u a0)] [] (z2o r) (z9x r)) (by kernel_rfl)
 refine fnT (cx := cx X) Tryd.f13 Tryd.call13 Tryd.func13 (by kernel_rfl) ?_
 rw [z2k] at h
 refine adv (ok X) 7 [] pT (by kernel_rfl) ?_
 refine lp (ok X) (z3z (z2k n) a0) (fun (x1 : (Int × (List z05))) => ⟨74, 0, [(0, [xL (List.map z0u a0)]), (3, [xR 0]), (4, [xI x1.1])], [oR true 109 19 (List.map z0o x1.2)]⟩) (fun (j1 : (List z05)) => ⟨74, 0, [(3, [xR 0])], [oR true 109 19 (List.map z0o j1)]⟩) z9y (0, []) (fun _ => ⟨_, _, _, _, rfl⟩) h (by kernel_rfl) (fun x1 o h => ?_) (fun r' h => ?_) (fun j1 h => ?_)
 ·unfold z3z at h
  refine adv (ok X) 3 [.i (a0.length : Int)] (pA (lm z0u a0) pT) (by kernel_rfl) ?_
  rcases iteE h with ⟨k1, h⟩ | ⟨k1, h⟩
  ·obtain ⟨v1, k2, h⟩ := z0b h
   obtain ⟨v2, k3, h⟩ := z0b h
   obtain ⟨v3, k4, h⟩ := z0b h
   obtain ⟨v4, k5, h⟩ := z0b h
   obtain ⟨v5, k6, h⟩ := z0b h
   refine adv (ok X) 11 [.b true, .e (z6t v1), .o [0, 1, 2, 3, 4, 5, 6, 7, 8, 9, 10, 11, 12, 13, 14, 15, 16, 17, 18, 19, 20], .c (z2x v2), .c (z8g v3), .c (z2o v4), .c (z2o v5)] (pA k1 (pA (ixr z2m k2) (pA (z8n (X := X) k3) (pA (zgg (X := X) k4) (pA (ih_l02_Stmts _ _ k5) (pA (ih_l02_Stmts _ _ k6) pT)))))) (by kernel_rfl) ?_
   refine lp (ok X) (z3y (z2k n) v1) (fun (x2 : (Int × (List z19))) => ⟨74, 0, [(0, [xL (List.map z0u a0)]), (3, [xR 0]), (4, [xI x1.1]), (5, [xP 1 0]), (6, [xP 2 0]), (7, [xI x2.1])], [oR true 109 19 (List.map z0o x1.2), oB 39 (bs (z6t v1)), oB 109 [.pv (.int .i64 v1.Kind), .pv (.str v1.Name), .pv (.str v1.Tag), .pv (.int .i64 v2.Kind), .pv (.int .i64 v2.Num), .pv (.str v2.Name), .pv (.sl (List.map z0x v2.Kids)), .pv (.int .i64 v3.Op), .pv (.int .i64 v3.L.Kind), .pv (.int .i64 v3.L.Num), .pv (.str v3.L.Name), .pv (.sl (List.map z0x v3.L.Kids)), .pv (.int .i64 v3.R.Kind), .pv (.int .i64 v3.R.Num), .pv (.str v3.R.Name), .pv (.sl (List.map z0x v3.R.Kids)), .pv (.sl (List.map z0o v4)), .pv (.sl (List.map z0o v5)), .row 3], oR true 111 3 (List.map z1o x2.2)]⟩) (fun (j2 : (List z19)) => ⟨74, 0, [(0, [xL (List.map z0u a0)]), (3, [xR 0]), (4, [xI x1.1]), (6, [xP 2 0])], [oR true 109 19 (List.map z0o x1.2), none, oB 109 [.pv (.int .i64 v1.Kind), .pv (.str v1.Name), .pv (.str v1.Tag), .pv (.int .i64 v2.Kind), .pv (.int .i64 v2.Num), .pv (.str v2.Name), .pv (.sl (List.map z0x v2.Kids)), .pv (.int .i64 v3.Op), .pv (.int .i64 v3.L.Kind), .pv (.int .i64 v3.L.Num), .pv (.str v3.L.Name), .pv (.sl (List.map z0x v3.L.Kids)), .pv (.int .i64 v3.R.Kind), .pv (.int .i64 v3.R.Num), .pv (.str v3.R.Name), .pv (.sl (List.map z0x v3.R.Kids)), .pv (.sl (List.map z0o v4)), .pv (.sl (List.map z0o v5)), .row 3], oR true 111 3 (List.map z1o j2)]⟩) z9y (0, []) (fun _ => ⟨_, _, _, _, rfl⟩) h (by kernel_rfl) (fun x2 o h => ?_) (fun r' h => ?_) (fun j2 h => ?_)
   ·unfold z3y at h
    refine adv (ok X) 3 [.i (v1.Arms.length : Int)] (pA (lm z4y v1.Arms) pT) (by kernel_rfl) ?_
    rcases iteE h with ⟨k7, h⟩ | ⟨k7, h⟩
    ·obtain ⟨v6, k8, h⟩ := z0b h
     obtain ⟨v7, k9, h⟩ := z0b h
     obtain ⟨v8, k10, h⟩ := z0b h
     obtain rfl := retE h
     exact fin (ok X) 7 [.b true, .o [0, 1, 2, 3, 4, 5, 6, 7, 8, 9, 10, 11, 12, 13, 14, 15, 16, 17, 18, 19, 20, 21, 22, 23, 24, 25], .e (z9w v6), .e (z9w v6), .e (z9w v6), .c (z2o v7), .bl (List.map z1o [(z19.mk v6.Tag v6.Var v7)]), .l (List.map z1o v8)] (pA k7 (pA (ixr z6b k8) (pA (ixr z6b k8) (pA (ixr z6b k8) (pA (ih_l02_Stmts _ _ k9) (pA (blc (e := z1o) (x := (z19.mk v6.Tag v6.Var v7)) (z6d _).symm (bl0 z1o)) (pA (apm (L := x2.2) (M := [(z19.mk v6.Tag v6.Var v7)]) zbf k10) pT))))))) (by kernel_rfl)
    ·obtain rfl := retE h
     exact fin (ok X) 2 [.b false] (pA k7 pT) (by kernel_rfl)
   ·cases h
   ·obtain ⟨v9, k11, h⟩ := z0b h
    obtain rfl := retE h
    exact fin (ok X) 3 [.z (.fz 3), .bl (List.map z0o [(z05.mk v1.Kind v1.Name v1.Tag v2 v3 v4 v5 j2)]), .l (List.map z0o v9)] (pA (blc (e := z0o) (x := (z05.mk v1.Kind v1.Name v1.Tag v2 v3 v4 v5 j2)) (z5v _).symm (bl0 z0o)) (pA (apm (L := x1.2) (M := [(z05.mk v1.Kind v1.Name v1.Tag v2 v3 v4 v5 j2)]) zad k11) pT)) (by kernel_rfl)
  ·obtain rfl := retE h
   exact fin (ok X) 2 [.b false] (pA k1 pT) (by kernel_rfl)
 ·cases h
 ·obtain rfl := retE h
  exact fin (ok X) 3 [] pT (by kernel_rfl)

theorem z7t : ∀ n : Nat, (∀ (a0 : (List z0c)) (r : (List z05)), z2k n a0 = some r → Cv Tryd.prog (GX X) 13 [xL (List.map z0u a0)] (z2o r))
 | 0 => (fun _ _ h => by rw [z2k] at h; cases h)
 | n + 1 => by
  have ih := z7t n
  exact zdw ih

theorem zdx {a0 : (List z0c)} {r : (List z05)} (h : z9z a0 = some r) : Cv Tryd.prog (GX X) 13 [xL (List.map z0u a0)] (z2o r) := by
 obtain ⟨n, hn⟩ := unfE h
 exact (z7t n) _ _ hn

theorem z90 {a0 : z22} {r : z1a} (h : z40 a0 = some r) : Cv Tryd.prog (GX X) 6 [.agg (bs (z2n a0))] (z4j r) := by
 refine Cs.toV (?_ : Cs Tryd.prog (GX X) 6 [.agg (bs (z2n a0))] [] (z4j r) (z8y r)) (by kernel_rfl)
 refine fnT (cx := cx X) Tryd.f6 Tryd.call6 Tryd.func6 (by kernel_rfl) ?_
 unfold z40 at h
 refine adv (ok X) 7 [] pT (by kernel_rfl) ?_
 refine lp (ok X) (z3c a0) (fun (x1 : (Int × (List z1z))) => ⟨124, 0, [(1, [xP 0 0]), (2, [xP 1 0]), (3, [xP 2 0]), (4, [xI x1.1])], [oB 31 (bs (z2n a0)), oB 47 [.emp, .emp, .emp], oB 47 [.row 3, .emp, .emp], oR true 71 6 (List.map z1r x1.2)]⟩) (fun (j1 : (List z1z)) => ⟨124, 0, [(1, [xP 0 0]), (2, [xP 1 0]), (3, [xP 2 0])], [oB 31 (bs (z2n a0)), oB 47 [.emp, .emp, .emp], oB 47 [.row 3, .emp, .emp], oR true 71 6 (List.map z1r j1)]⟩) z5b (0, []) (fun _ => ⟨_, _, _, _, rfl⟩) h (by kernel_rfl) (fun x1 o h => ?_) (fun r' h => ?_) (fun j1 h => ?_)
 ·unfold z3c at h
  refine adv (ok X) 3 [.i (a0.Chans.length : Int)] (pA (lm z6q a0.Chans) pT) (by kernel_rfl) ?_
  rcases iteE h with ⟨k1, h⟩ | ⟨k1, h⟩
  ·obtain ⟨v1, k2, h⟩ := z0b h
   obtain ⟨v2, k3, h⟩ := z0b h
   obtain ⟨v3, k4, h⟩ := z0b h
   obtain rfl := retE h
   exact fin (ok X) 9 [.b true, .e (z6q v1), .o [0, 1, 2, 3, 4, 5, 6, 7, 8, 9, 10, 11, 12, 13, 14, 15, 16, 17, 18, 19, 20], .cp (List.map z0j v2), .l (List.map z1r v3)] (pA k1 (pA (ixm z6q k2) (pA (apm za3 k3) (pA (apm (L := x1.2) (M := [(z1z.mk v1.Name v1.Kind v1.Size v1.From v1.To v2)]) zaf k4) pT)))) (by kernel_rfl)
  ·obtain rfl := retE h
   exact fin (ok X) 2 [.b false] (pA k1 pT) (by kernel_rfl)
 ·cases h
 ·refine adv (ok X) 3 [] pT (by kernel_rfl) ?_
  refine lp (ok X) (z3e a0) (fun (x2 : (Int × (List z27))) => ⟨124, 0, [(1, [xP 0 0]), (2, [xP 1 0]), (3, [xP 2 0]), (6, [xI x2.1])], [oB 31 (bs (z2n a0)), oB 47 [.emp, .emp, .emp], oB 47 [.row 3, .row 4, .emp], oR true 71 6 (List.map z1r j1), oR true 75 2 (List.map z28 x2.2)]⟩) (fun (j2 : (List z27)) => ⟨124, 0, [(1, [xP 0 0]), (2, [xP 1 0]), (3, [xP 2 0])], [oB 31 (bs (z2n a0)), oB 47 [.emp, .emp, .emp], oB 47 [.row 3, .row 4, .emp], oR true 71 6 (List.map z1r j1), oR true 75 2 (List.map z28 j2)]⟩) z5b (0, []) (fun _ => ⟨_, _, _, _, rfl⟩) h (by kernel_rfl) (fun x2 o h => ?_) (fun r' h => ?_) (fun j2 h => ?_)
  ·unfold z3e at h
   refine adv (ok X) 3 [.i (a0.Rules.length : Int)] (pA (lm z3w a0.Rules) pT) (by kernel_rfl) ?_
   rcases iteE h with ⟨k5, h⟩ | ⟨k5, h⟩
   ·obtain ⟨v4, k6, h⟩ := z0b h
    refine adv (ok X) 9 [.b true, .e (z3w v4)] (pA k5 (pA (ixm z3w k6) pT)) (by kernel_rfl) ?_
    refine lp (ok X) (z3d a0 x2) (fun (x3 : (Int × (List z39))) => ⟨124, 0, [(1, [xP 0 0]), (2, [xP 1 0]), (3, [xP 2 0]), (6, [xI x2.1]), (7, [xP 5 0]), (8, [xI x3.1])], [oB 31 (bs (z2n a0)), oB 47 [.emp, .emp, .emp], oB 47 [.row 3, .row 4, .emp], oR true 71 6 (List.map z1r j1), oR true 75 2 (List.map z28 x2.2), oB 75 [.pv (.str v4.Chan), .row 6], oR true 81 3 (List.map z3a x3.2)]⟩) (fun (j3 : (List z39)) => ⟨124, 0, [(1, [xP 0 0]), (2, [xP 1 0]), (3, [xP 2 0]), (6, [xI x2.1]), (7, [xP 5 0])], [oB 31 (bs (z2n a0)), oB 47 [.emp, .emp, .emp], oB 47 [.row 3, .row 4, .emp], oR true 71 6 (List.map z1r j1), oR true 75 2 (List.map z28 x2.2), oB 75 [.pv (.str v4.Chan), .row 6], oR true 81 3 (List.map z3a j3)]⟩) z5b (0, []) (fun _ => ⟨_, _, _, _, rfl⟩) h (by kernel_rfl) (fun x3 o h => ?_) (fun r' h => ?_) (fun j3 h => ?_)
    ·unfold z3d at h
     obtain ⟨v5, k7, h⟩ := z0b h
     refine adv (ok X) 3 [.e (z3w v5), .i (v5.Moves.length : Int)] (pA (ixm z3w k7) (pA (lm z6r v5.Moves) pT)) (by kernel_rfl) ?_
     rcases iteE h with ⟨k8, h⟩ | ⟨k8, h⟩
     ·obtain ⟨v6, k9, h⟩ := z0b h
      obtain ⟨v7, k10, h⟩ := z0b h
      obtain ⟨v8, k11, h⟩ := z0b h
      obtain rfl := retE h
      exact fin (ok X) 9 [.b true, .e (z3w v6), .e (z6r v7), .l (List.map z3a v8)] (pA k8 (pA (ixm z3w k9) (pA (ixm z6r k10) (pA (apm (L := x3.2) (M := [(z39.mk v7.From v7.Tag v7.To)]) zag k11) pT)))) (by kernel_rfl)
     ·obtain rfl := retE h
      exact fin (ok X) 2 [.b false] (pA k8 pT) (by kernel_rfl)
    ·cases h
    ·obtain ⟨v9, k12, h⟩ := z0b h
     obtain rfl := retE h
     exact fin (ok X) 3 [.z (.fz 6), .l (List.map z28 v9)] (pA (apm (L := x2.2) (M := [(z27.mk v4.Chan j3)]) zah k12) pT) (by kernel_rfl)
   ·obtain rfl := retE h
    exact fin (ok X) 2 [.b false] (pA k5 pT) (by kernel_rfl)
  ·cases h
  ·refine adv (ok X) 3 [] pT (by kernel_rfl) ?_
   refine lp (ok X) (z3f a0) (fun (x4 : (Int × (List z2b))) => ⟨124, 0, [(1, [xP 0 0]), (2, [xP 1 0]), (3, [xP 2 0]), (10, [xI x4.1])], [oB 31 (bs (z2n a0)), oB 47 [.emp, .emp, .emp], oB 47 [.row 3, .row 4, .row 5], oR true 71 6 (List.map z1r j1), oR true 75 2 (List.map z28 j2), oR true 79 3 (List.map z2j x4.2)]⟩) (fun (j4 : (List z2b)) => ⟨124, 0, [(2, [xP 1 0]), (3, [xP 2 0])], [none, oB 47 [.emp, .emp, .emp], oB 47 [.row 3, .row 4, .row 5], oR true 71 6 (List.map z1r j1), oR true 75 2 (List.map z28 j2), oR true 79 3 (List.map z2j j4)]⟩) z5b (0, []) (fun _ => ⟨_, _, _, _, rfl⟩) h (by kernel_rfl) (fun x4 o h => ?_) (fun r' h => ?_) (fun j4 h => ?_)
   ·unfold z3f at h
    refine adv (ok X) 3 [.i (a0.Procs.length : Int)] (pA (lm z6s a0.Procs) pT) (by kernel_rfl) ?_
    rcases iteE h with ⟨k13, h⟩ | ⟨k13, h⟩
    ·obtain ⟨v10, k14, h⟩ := z0b h
     obtain ⟨v11, k15, h⟩ := z0b h
     obtain ⟨v12, k16, h⟩ := z0b h
     obtain ⟨v13, k17, h⟩ := z0b h
     obtain rfl := retE h
     exact fin (ok X) 9 [.b true, .e (z6s v10), .o [0, 1, 2, 3, 4, 5, 6, 7, 8, 9, 10, 11, 12, 13, 14, 15], .cp (List.map z0j v11), .c (z2o v12), .l (List.map z2j v13)] (pA k13 (pA (ixm z6s k14) (pA (apm za3 k15) (pA (zdx (X := X) k16) (pA (apm (L := x4.2) (M := [(z2b.mk v10.Name v11 v12)]) zai k17) pT))))) (by kernel_rfl)
    ·obtain rfl := retE h
     exact fin (ok X) 2 [.b false] (pA k13 pT) (by kernel_rfl)
   ·cases h
   ·obtain rfl := retE h
    exact fin (ok X) 3 [] pT (by kernel_rfl)

theorem z04 {a0 : z00} {a1 : (List ByteArray)} {r : z00} (h : z01 a0 a1 = some r) : Cs Tryd.prog (GX X) 17 [xP 0 0, xL (List.map z0j a1)] [oB 70 [.row 1, .pv (.bool a0.f_form), .pv (.bool a0.f_deep), .pv (.int .i64 a0.f_blocks), .pv (.int .i64 a0.f_parens)], oR false 9 1 (List.map z0j a0.f_out)] (z02 r) (z03 r) := by
 refine fnT (cx := cx X) Tryd.f17 Tryd.call17 Tryd.func17 (by kernel_rfl) ?_
 unfold z01 at h
 obtain ⟨v1, k1, h⟩ := z0b h
 obtain rfl := retE h
 exact fin (ok X) 1 [.l (List.map z0j v1)] (pA (apm (L := a0.f_out) (M := a1) za3 k1) pT) (by kernel_rfl)

theorem z6h {a0 : Int} {r : Bool} (h : z4t a0 = some r) : Cv Tryd.prog (GX X) 24 [.c (.pv (.int .u8 a0))] (z4k r) := by
 refine Cs.toV (?_ : Cs Tryd.prog (GX X) 24 [.c (.pv (.int .u8 a0))] [] (z4k r) (zcj r)) (by kernel_rfl)
 refine fnT (cx := cx X) Tryd.f24 Tryd.call24 Tryd.func24 (by kernel_rfl) ?_
 unfold z4t at h
 rcases iteE h with ⟨k1, h⟩ | ⟨k1, h⟩
 ·obtain rfl := retE h
  exact fin (ok X) 5 (bT 3 []) (pR 3 k1 pT) (by kernel_rfl)
 ·obtain rfl := retE h
  exact fin (ok X) 5 (bF 3 []) (pR 3 k1 pT) (by kernel_rfl)

theorem za5 {a0 : Int} {r : Bool} (h : z5j a0 = some r) : Cv Tryd.prog (GX X) 27 [.c (.pv (.int .u8 a0))] (z5w r) := by
 refine Cs.toV (?_ : Cs Tryd.prog (GX X) 27 [.c (.pv (.int .u8 a0))] [] (z5w r) (zdq r)) (by kernel_rfl)
 refine fnT (cx := cx X) Tryd.f27 Tryd.call27 Tryd.func27 (by kernel_rfl) ?_
 unfold z5j at h
 rcases iteE h with ⟨k1, h⟩ | ⟨k1, h⟩
 ·obtain rfl := retE h
  exact fin (ok X) 5 (bT 3 []) (pR 3 k1 pT) (by kernel_rfl)
 ·obtain rfl := retE h
  exact fin (ok X) 5 (bF 3 []) (pR 3 k1 pT) (by kernel_rfl)

theorem zcm {a0 : ByteArray} {r : Int} (h : z8h a0 = some r) : Cv Tryd.prog (GX X) 26 [xS a0] (z6e r) := by
 refine Cs.toV (?_ : Cs Tryd.prog (GX X) 26 [xS a0] [] (z6e r) (zck r)) (by kernel_rfl)
 refine fnT (cx := cx X) Tryd.f26 Tryd.call26 Tryd.func26 (by kernel_rfl) ?_
 unfold z8h at h
 refine adv (ok X) 5 [] pT (by kernel_rfl) ?_
 refine lp (ok X) (z49 a0) (fun (x1 : Int) => ⟨23, 0, [(0, [xS a0]), (3, [xI x1])], []⟩) (fun (j1 : Int) => ⟨23, 0, [(3, [xI j1])], []⟩) zia 0 (fun _ => ⟨_, _, _, _, rfl⟩) h (by kernel_rfl) (fun x1 o h => ?_) (fun r' h => ?_) (fun j1 h => ?_)
 ·unfold z49 at h
  refine adv (ok X) 2 [] pT (by kernel_rfl) ?_
  refine jn (ok X) 1 (fun (j2 : Bool) => ⟨23, 0, [(0, [xS a0]), (3, [xI x1]), (19, [xB j2])], []⟩) h (fun j2 h => ?_) (fun j2 h => ?_)
  ·rcases iteE h with ⟨k1, h⟩ | ⟨k1, h⟩
   ·obtain ⟨v1, k2, h⟩ := z0b h
    obtain ⟨v2, k3, h⟩ := z0b h
    rcases iteE h with ⟨k4, h⟩ | ⟨k4, h⟩
    ·obtain rfl := retE h
     exact fin (ok X) 1 (bT 3 (.i v1 :: .b true :: .c (z4k v2) :: bT 8 [])) (pR 3 k1 (pA k2 (pA k1 (pA (z6h (X := X) k3) (pA k1 (pR 4 k4 (pA k1 (pA k4 (pA k1 pT))))))))) (by kernel_rfl)
    ·obtain ⟨v3, k5, h⟩ := z0b h
     obtain ⟨v4, k6, h⟩ := z0b h
     obtain rfl := retE h
     exact fin (ok X) 1 (bT 3 (.i v1 :: .b true :: .c (z4k v2) :: .b true :: bF 3 [.i v3, .b false, .c (z5w v4), .b true, .b false, .b true])) (pR 3 k1 (pA k2 (pA k1 (pA (z6h (X := X) k3) (pA k1 (pR 3 k4 (pA k5 (pA k4 (pA (za5 (X := X) k6) (pA k1 (pA k4 (pA k1 pT)))))))))))) (by kernel_rfl)
   ·obtain rfl := retE h
    exact fin (ok X) 1 (bF 7 []) (pR 7 k1 pT) (by kernel_rfl)
  ·rcases iteE h with ⟨k7, h⟩ | ⟨k7, h⟩
   ·obtain rfl := retE h
    exact fin (ok X) 5 [.b true] (pA k7 pT) (by kernel_rfl)
   ·obtain rfl := retE h
    exact fin (ok X) 2 [.b false] (pA k7 pT) (by kernel_rfl)
 ·cases h
 ·obtain rfl := retE h
  exact fin (ok X) 3 [] pT (by kernel_rfl)

theorem zaj {a0 : ByteArray} {r : Bool} (h : z4l a0 = some r) : Cv Tryd.prog (GX X) 33 [xS a0] (z5f r) := by
 refine Cs.toV (?_ : Cs Tryd.prog (GX X) 33 [xS a0] [] (z5f r) (zae r)) (by kernel_rfl)
 refine fnT (cx := cx X) Tryd.f33 Tryd.call33 Tryd.func33 (by kernel_rfl) ?_
 unfold z4l at h
 rcases iteE h with ⟨k1, h⟩ | ⟨k1, h⟩
 ·obtain rfl := retE h
  exact fin (ok X) 15 [.b true, .b true] (pA k1 (pA k1 pT)) (by kernel_rfl)
 ·refine adv (ok X) 12 [.b false] (pA k1 pT) (by kernel_rfl) ?_
  rcases iteE h with ⟨k2, h⟩ | ⟨k2, h⟩
  ·obtain rfl := retE h
   exact fin (ok X) 6 [.b true, .b true] (pA k2 (pA k2 pT)) (by kernel_rfl)
  ·refine adv (ok X) 3 [.b false] (pA k2 pT) (by kernel_rfl) ?_
   rcases iteE h with ⟨k3, h⟩ | ⟨k3, h⟩
   ·obtain rfl := retE h
    exact fin (ok X) 6 [.b true, .b true] (pA k3 (pA k3 pT)) (by kernel_rfl)
   ·refine adv (ok X) 3 [.b false] (pA k3 pT) (by kernel_rfl) ?_
    rcases iteE h with ⟨k4, h⟩ | ⟨k4, h⟩
    ·obtain rfl := retE h
     exact fin (ok X) 6 [.b true, .b true] (pA k4 (pA k4 pT)) (by kernel_rfl)
    ·refine adv (ok X) 3 [.b false] (pA k4 pT) (by kernel_rfl) ?_
     rcases iteE h with ⟨k5, h⟩ | ⟨k5, h⟩
     ·obtain rfl := retE h
      exact fin (ok X) 6 [.b true, .b true] (pA k5 (pA k5 pT)) (by kernel_rfl)
     ·refine adv (ok X) 3 [.b false] (pA k5 pT) (by kernel_rfl) ?_
      rcases iteE h with ⟨k6, h⟩ | ⟨k6, h⟩
      ·obtain rfl := retE h
       exact fin (ok X) 6 [.b true, .b true] (pA k6 (pA k6 pT)) (by kernel_rfl)
      ·refine adv (ok X) 3 [.b false] (pA k6 pT) (by kernel_rfl) ?_
       rcases iteE h with ⟨k7, h⟩ | ⟨k7, h⟩
       ·obtain rfl := retE h
        exact fin (ok X) 6 [.b true, .b true] (pA k7 (pA k7 pT)) (by kernel_rfl)
       ·refine adv (ok X) 2 [.b false] (pA k7 pT) (by kernel_rfl) ?_
        rcases iteE h with ⟨k8, h⟩ | ⟨k8, h⟩
        ·obtain rfl := retE h
         exact fin (ok X) 4 [.b true] (pA k8 pT) (by kernel_rfl)
        ·refine adv (ok X) 4 [.b false] (pA k8 pT) (by kernel_rfl) ?_
         rcases iteE h with ⟨k9, h⟩ | ⟨k9, h⟩
         ·obtain rfl := retE h
          exact fin (ok X) 6 [.b true, .b true] (pA k9 (pA k9 pT)) (by kernel_rfl)
         ·refine adv (ok X) 3 [.b false] (pA k9 pT) (by kernel_rfl) ?_
          rcases iteE h with ⟨k10, h⟩ | ⟨k10, h⟩
          ·obtain rfl := retE h
           exact fin (ok X) 6 [.b true, .b true] (pA k10 (pA k10 pT)) (by kernel_rfl)
          ·refine adv (ok X) 3 [.b false] (pA k10 pT) (by kernel_rfl) ?_
           rcases iteE h with ⟨k11, h⟩ | ⟨k11, h⟩
           ·obtain rfl := retE h
            exact fin (ok X) 6 [.b true, .b true] (pA k11 (pA k11 pT)) (by kernel_rfl)
           ·refine adv (ok X) 3 [.b false] (pA k11 pT) (by kernel_rfl) ?_
            rcases iteE h with ⟨k12, h⟩ | ⟨k12, h⟩
            ·obtain rfl := retE h
             exact fin (ok X) 6 [.b true, .b true] (pA k12 (pA k12 pT)) (by kernel_rfl)
            ·refine adv (ok X) 3 [.b false] (pA k12 pT) (by kernel_rfl) ?_
             rcases iteE h with ⟨k13, h⟩ | ⟨k13, h⟩
             ·obtain rfl := retE h
              exact fin (ok X) 6 [.b true, .b true] (pA k13 (pA k13 pT)) (by kernel_rfl)
             ·refine adv (ok X) 3 [.b false] (pA k13 pT) (by kernel_rfl) ?_
              rcases iteE h with ⟨k14, h⟩ | ⟨k14, h⟩
              ·obtain rfl := retE h
               exact fin (ok X) 6 [.b true, .b true] (pA k14 (pA k14 pT)) (by kernel_rfl)
              ·refine adv (ok X) 3 [.b false] (pA k14 pT) (by kernel_rfl) ?_
               rcases iteE h with ⟨k15, h⟩ | ⟨k15, h⟩
               ·obtain rfl := retE h
                exact fin (ok X) 6 [.b true, .b true] (pA k15 (pA k15 pT)) (by kernel_rfl)
               ·refine adv (ok X) 2 [.b false] (pA k15 pT) (by kernel_rfl) ?_
                rcases iteE h with ⟨k16, h⟩ | ⟨k16, h⟩
                ·obtain rfl := retE h
                 exact fin (ok X) 4 [.b true] (pA k16 pT) (by kernel_rfl)
                ·obtain rfl := retE h
                 exact fin (ok X) 6 [.b false] (pA k16 pT) (by kernel_rfl)

theorem zdy {a0 : ByteArray} {r : (z15 × Int)} (h : z5k a0 = some r) : Cv Tryd.prog (GX X) 25 [xS a0] (z7b r) := by
 refine Cs.toV (?_ : Cs Tryd.prog (GX X) 25 [xS a0] [] (z7b r) (zdr r)) (by kernel_rfl)
 refine fnT (cx := cx X) Tryd.f25 Tryd.call25 Tryd.func25 (by kernel_rfl) ?_
 unfold z5k at h
 rcases iteE h with ⟨k1, h⟩ | ⟨k1, h⟩
 ·obtain rfl := retE h
  exact fin (ok X) 10 [.b true] (pA k1 pT) (by kernel_rfl)
 ·obtain ⟨v1, k2, h⟩ := z0b h
  refine adv (ok X) 9 [.b false, .c (z5f v1)] (pA k1 (pA (zaj (X := X) k2) pT)) (by kernel_rfl) ?_
  rcases iteE h with ⟨k3, h⟩ | ⟨k3, h⟩
  ·obtain rfl := retE h
   exact fin (ok X) 4 [.b true] (pA k3 pT) (by kernel_rfl)
  ·obtain rfl := retE h
   exact fin (ok X) 6 [.b false] (pA k3 pT) (by kernel_rfl)

theorem zgh {a0 : ByteArray} {r : Int} (h : z7p a0 = some r) : Cv Tryd.prog (GX X) 29 [xS a0] (z8i r) := by
 refine Cs.toV (?_ : Cs Tryd.prog (GX X) 29 [xS a0] [] (z8i r) (zgb r)) (by kernel_rfl)
 refine fnT (cx := cx X) Tryd.f29 Tryd.call29 Tryd.func29 (by kernel_rfl) ?_
 unfold z7p at h
 refine adv (ok X) 4 [] pT (by kernel_rfl) ?_
 refine jn (ok X) 1 (fun (j1 : Bool) => ⟨21, 0, [(0, [xS a0]), (16, [xB j1])], []⟩) h (fun j1 h => ?_) (fun j1 h => ?_)
 ·rcases iteE h with ⟨k1, h⟩ | ⟨k1, h⟩
  ·obtain ⟨v1, k2, h⟩ := z0b h
   rcases iteE h with ⟨k3, h⟩ | ⟨k3, h⟩
   ·obtain ⟨v2, k4, h⟩ := z0b h
    obtain ⟨v3, k5, h⟩ := z0b h
    obtain rfl := retE h
    exact fin (ok X) 1 (.b true :: .b true :: .i v1 :: bT 4 [.i v2, .b true, .c (zds v3), .b true, .b true]) (pA k1 (pA k1 (pA k2 (pA k1 (pA k1 (pA k3 (pA k3 (pA k4 (pA k3 (pA (zie (X := X) k5) (pA k3 (pA k3 pT)))))))))))) (by kernel_rfl)
   ·obtain rfl := retE h
    exact fin (ok X) 1 (.b true :: .b true :: .i v1 :: .b true :: .b true :: bF 5 []) (pA k1 (pA k1 (pA k2 (pA k1 (pA k1 (pR 5 k3 pT)))))) (by kernel_rfl)
  ·obtain rfl := retE h
   exact fin (ok X) 1 (bF 9 []) (pR 4 k1 (pR 5 ff pT)) (by kernel_rfl)
 ·rcases iteE h with ⟨k6, h⟩ | ⟨k6, h⟩
  ·obtain rfl := retE h
   exact fin (ok X) 4 [.b true] (pA k6 pT) (by kernel_rfl)
  ·obtain ⟨v4, k7, h⟩ := z0b h
   obtain ⟨v5, k8, h⟩ := z0b h
   refine adv (ok X) 5 [.b false, .i v4, .c (zds v5)] (pA k6 (pA k7 (pA (zie (X := X) k8) pT))) (by kernel_rfl) ?_
   rcases iteE h with ⟨k9, h⟩ | ⟨k9, h⟩
   ·obtain rfl := retE h
    exact fin (ok X) 4 [.b true] (pA k9 pT) (by kernel_rfl)
   ·obtain rfl := retE h
    exact fin (ok X) 5 [.b false] (pA k9 pT) (by kernel_rfl)

theorem zgi {a0 : ByteArray} {r : (z15 × Int)} (h : z5x a0 = some r) : Cv Tryd.prog (GX X) 14 [xS a0] (z8j r) := by
 refine Cs.toV (?_ : Cs Tryd.prog (GX X) 14 [xS a0] [] (z8j r) (zgc r)) (by kernel_rfl)
 refine fnT (cx := cx X) Tryd.f14 Tryd.call14 Tryd.func14 (by kernel_rfl) ?_
 unfold z5x at h
 obtain ⟨v1, k1, h⟩ := z0b h
 obtain ⟨v2, k2, h⟩ := z0b h
 refine adv (ok X) 6 [.i v1, .c (z4k v2)] (pA k1 (pA (z6h (X := X) k2) pT)) (by kernel_rfl) ?_
 rcases iteE h with ⟨k3, h⟩ | ⟨k3, h⟩
 ·obtain ⟨v3, k4, h⟩ := z0b h
  obtain ⟨v4, k5, h⟩ := z0b h
  obtain ⟨v5, k6, h⟩ := z0b h
  obtain rfl := retE h
  exact fin (ok X) 4 [.b true, .c (z6e v3), .x [xS v4], .c (z7b v5)] (pA k3 (pA (zcm (X := X) k4) (pA k5 (pA (zdy (X := X) k6) pT)))) (by kernel_rfl)
 ·obtain ⟨v6, k7, h⟩ := z0b h
  obtain ⟨v7, k8, h⟩ := z0b h
  refine adv (ok X) 3 [.b false, .i v6, .c (z5w v7)] (pA k3 (pA k7 (pA (za5 (X := X) k8) pT))) (by kernel_rfl) ?_
  rcases iteE h with ⟨k9, h⟩ | ⟨k9, h⟩
  ·obtain ⟨v8, k10, h⟩ := z0b h
   obtain ⟨v9, k11, h⟩ := z0b h
   obtain ⟨v10, k12, h⟩ := z0b h
   obtain rfl := retE h
   exact fin (ok X) 8 [.b true, .c (z6e v8), .x [xS v9], .c (zf2 v10)] (pA k9 (pA (zcm (X := X) k10) (pA k11 (pA (zk0 (X := X) k12) pT)))) (by kernel_rfl)
  ·obtain ⟨v11, k13, h⟩ := z0b h
   refine adv (ok X) 8 [.b false, .c (z8i v11)] (pA k9 (pA (zgh (X := X) k13) pT)) (by kernel_rfl) ?_
   rcases iteE h with ⟨k14, h⟩ | ⟨k14, h⟩
   ·obtain rfl := retE h
    exact fin (ok X) 4 [.b true] (pA k14 pT) (by kernel_rfl)
   ·obtain ⟨v12, k15, h⟩ := z0b h
    obtain rfl := retE h
    exact fin (ok X) 5 [.b false, .x [xS v12]] (pA k14 (pA k15 pT)) (by kernel_rfl)

theorem zif {a0 : ByteArray} {r : ((List z15) × Int × Int)} (h : za1 a0 = some r) : Cv Tryd.prog (GX X) 8 [xS a0] (z7q r) := by
 refine Cs.toV (?_ : Cs Tryd.prog (GX X) 8 [xS a0] [] (z7q r) (zcl r)) (by kernel_rfl)
 refine fnT (cx := cx X) Tryd.f8 Tryd.call8 Tryd.func8 (by kernel_rfl) ?_
 unfold za1 at h
 refine adv (ok X) 7 [] pT (by kernel_rfl) ?_
 refine lp (ok X) (z4a a0) (fun (x1 : (Int × (List z15))) => ⟨53, 0, [(0, [xS a0]), (5, [xR 0]), (6, [xI x1.1])], [oR true 64 4 (List.map z1i x1.2)]⟩) (fun (j1 : (List z15)) => ⟨53, 0, [(0, [xS a0]), (5, [xR 0])], [oR true 64 4 (List.map z1i j1)]⟩) zib (0, []) (fun _ => ⟨_, _, _, _, rfl⟩) h (by kernel_rfl) (fun x1 o h => ?_) (fun r' h => ?_) (fun j1 h => ?_)
 ·unfold z4a at h
  rcases iteE h with ⟨k1, h⟩ | ⟨k1, h⟩
  ·refine adv (ok X) 8 [.b true] (pA k1 pT) (by kernel_rfl) ?_
   refine jn (ok X) 1 (fun (j2 : Bool) => ⟨53, 0, [(0, [xS a0]), (5, [xR 0]), (6, [xI x1.1]), (22, [xB j2])], [oR true 64 4 (List.map z1i x1.2)]⟩) h (fun j2 h => ?_) (fun j2 h => ?_)
   ·obtain ⟨v1, k2, h⟩ := z0b h
    rcases iteE h with ⟨k3, h⟩ | ⟨k3, h⟩
    ·obtain rfl := retE h
     exact fin (ok X) 1 (.i v1 :: bT 5 []) (pA k2 (pR 5 k3 pT)) (by kernel_rfl)
    ·obtain ⟨v2, k4, h⟩ := z0b h
     obtain rfl := retE h
     exact fin (ok X) 1 (.i v1 :: bF 3 [.i v2, .b false, .b false]) (pA k2 (pR 3 k3 (pA k4 (pA k3 (pA k3 pT))))) (by kernel_rfl)
   ·rcases iteE h with ⟨k5, h⟩ | ⟨k5, h⟩
    ·obtain rfl := retE h
     exact fin (ok X) 4 [.b true] (pA k5 pT) (by kernel_rfl)
    ·obtain ⟨v3, k6, h⟩ := z0b h
     obtain ⟨v4, k7, h⟩ := z0b h
     refine adv (ok X) 7 [.b false, .x [xS v3], .c (z8j v4)] (pA k5 (pA k6 (pA (zgi (X := X) k7) pT))) (by kernel_rfl) ?_
     rcases iteE h with ⟨k8, h⟩ | ⟨k8, h⟩
     ·obtain rfl := retE h
      exact fin (ok X) 4 [.b true] (pA k8 pT) (by kernel_rfl)
     ·obtain ⟨v5, k9, h⟩ := z0b h
      obtain rfl := retE h
      exact fin (ok X) 8 [.b false, .l (List.map z1i v5)] (pA k8 (pA (apm (L := x1.2) (M := [(z15.mk v4.1.Kind v4.1.Text v4.1.Num x1.1)]) za4 k9) pT)) (by kernel_rfl)
  ·obtain rfl := retE h
   exact fin (ok X) 5 [.b false] (pA k1 pT) (by kernel_rfl)
 ·obtain rfl := retE h
  kernel_rfl
 ·refine adv (ok X) 3 [.i (j1.length : Int)] (pA (lm z1i j1) pT) (by kernel_rfl) ?_
  rcases iteE h with ⟨k10, h⟩ | ⟨k10, h⟩
  ·obtain rfl := retE h
   exact fin (ok X) 4 [.b true] (pA k10 pT) (by kernel_rfl)
  ·obtain rfl := retE h
   exact fin (ok X) 5 [.b false] (pA k10 pT) (by kernel_rfl)

theorem z14 {a0 : z00} {a1 : Bool} {r : z00} (h : z0w a0 a1 = some r) : Cs Tryd.prog (GX X) 19 [xP 0 0, xB a1] [oB 70 [.row 1, .pv (.bool a0.f_form), .pv (.bool a0.f_deep), .pv (.int .i64 a0.f_blocks), .pv (.int .i64 a0.f_parens)], oR false 9 1 (List.map z0j a0.f_out)] (z11 r) (z12 r) := by
 refine fnT (cx := cx X) Tryd.f19 Tryd.call19 Tryd.func19 (by kernel_rfl) ?_
 unfold z0w at h
 rcases iteE h with ⟨k1, h⟩ | ⟨k1, h⟩
 ·obtain rfl := retE h
  exact fin (ok X) 1 (bT 3 []) (pR 3 k1 pT) (by kernel_rfl)
 ·obtain rfl := retE h
  exact fin (ok X) 1 (bF 3 []) (pR 3 k1 pT) (by kernel_rfl)

theorem z0n {a0 : z00} {a1 : ByteArray} {r : z00} (h : z0e a0 a1 = some r) : Cs Tryd.prog (GX X) 18 [xP 0 0, xS a1] [oB 70 [.row 1, .pv (.bool a0.f_form), .pv (.bool a0.f_deep), .pv (.int .i64 a0.f_blocks), .pv (.int .i64 a0.f_parens)], oR false 9 1 (List.map z0j a0.f_out)] (z0k r) (z0l r) := by
 refine fnT (cx := cx X) Tryd.f18 Tryd.call18 Tryd.func18 (by kernel_rfl) ?_
 unfold z0e at h
 obtain ⟨v1, k1, h⟩ := z0b h
 refine adv (ok X) 3 [.c (z7q v1)] (pA (zif (X := X) k1) pT) (by kernel_rfl) ?_
 refine jn (ok X) 1 (fun (j1 : (Bool × Bool × Int × Int × (List ByteArray))) => ⟨41, 2, [(0, [xP 0 0]), (1, [xS a1])], [oB 70 [.row 1, .pv (.bool j1.1), .pv (.bool j1.2.1), .pv (.int .i64 j1.2.2.1), .pv (.int .i64 j1.2.2.2.1)], oR true 9 1 (List.map z0j j1.2.2.2.2)]⟩) h (fun j1 h => ?_) (fun j1 h => ?_)
 ·rcases iteE h with ⟨k2, h⟩ | ⟨k2, h⟩
  ·rcases iteE h with ⟨k3, h⟩ | ⟨k3, h⟩
   ·obtain ⟨v2, k4, h⟩ := z0b h
    rcases iteE h with ⟨k5, h⟩ | ⟨k5, h⟩
    ·obtain ⟨v3, k6, h⟩ := z0b h
     obtain ⟨v4, k7, h⟩ := z0b h
     obtain rfl := retE h
     exact fin (ok X) 1 (.b true :: .b true :: .i (v1.1.length : Int) :: bT 4 (.e (z1i v2) :: bT 6 (.e (z1i v3) :: bT 5 [.s (z11 v4) (z12 v4)]))) (pA k2 (pA k2 (pA (lm z1i v1.1) (pA k2 (pA k2 (pA k3 (pA k3 (pA (ixm z1i k4) (pR 4 k3 (pA k5 (pA k5 (pA (ixm z1i k6) (pR 5 k5 (pA (z14 (X := X) k7) pT)))))))))))))) (by kernel_rfl)
    ·obtain ⟨v5, k8, h⟩ := z0b h
     obtain rfl := retE h
     exact fin (ok X) 1 (.b true :: .b true :: .i (v1.1.length : Int) :: bT 4 (.e (z1i v2) :: bT 4 (bF 7 [.s (z11 v5) (z12 v5)]))) (pA k2 (pA k2 (pA (lm z1i v1.1) (pA k2 (pA k2 (pA k3 (pA k3 (pA (ixm z1i k4) (pR 4 k3 (pR 7 k5 (pA (z14 (X := X) k8) pT))))))))))) (by kernel_rfl)
   ·obtain ⟨v6, k9, h⟩ := z0b h
    obtain rfl := retE h
    exact fin (ok X) 1 (.b true :: .b true :: .i (v1.1.length : Int) :: .b true :: .b true :: bF 13 [.s (z11 v6) (z12 v6)]) (pA k2 (pA k2 (pA (lm z1i v1.1) (pA k2 (pA k2 (pR 6 k3 (pR 7 ff (pA (z14 (X := X) k9) pT)))))))) (by kernel_rfl)
  ·obtain ⟨v7, k10, h⟩ := z0b h
   obtain rfl := retE h
   exact fin (ok X) 1 (bF 17 [.s (z11 v7) (z12 v7)]) (pR 4 k2 (pR 13 ff (pA (z14 (X := X) k10) pT))) (by kernel_rfl)
 ·obtain ⟨v8, k11, h⟩ := z0b h
  obtain rfl := retE h
  exact fin (ok X) 1 [.s (z02 v8) (z03 v8)] (pA (z04 (X := X) k11) pT) (by kernel_rfl)

theorem z2f {a0 : z00} {a1 : Int} {r : z00} (h : z1b a0 a1 = some r) : Cs Tryd.prog (GX X) 20 [xP 0 0, xI a1] [oB 70 [.row 1, .pv (.bool a0.f_form), .pv (.bool a0.f_deep), .pv (.int .i64 a0.f_blocks), .pv (.int .i64 a0.f_parens)], oR false 9 1 (List.map z0j a0.f_out)] (z23 r) (z24 r) := by
 refine fnT (cx := cx X) Tryd.f20 Tryd.call20 Tryd.func20 (by kernel_rfl) ?_
 unfold z1b at h
 refine adv (ok X) 1 [] pT (by kernel_rfl) ?_
 refine jn (ok X) 1 (fun (j1 : (Bool × Bool × Int × Int × (List ByteArray))) => ⟨17, 2, [(0, [xP 0 0]), (1, [xI a1])], [oB 70 [.row 1, .pv (.bool j1.1), .pv (.bool j1.2.1), .pv (.int .i64 j1.2.2.1), .pv (.int .i64 j1.2.2.2.1)], oR true 9 1 (List.map z0j j1.2.2.2.2)]⟩) h (fun j1 h => ?_) (fun j1 h => ?_)
 ·rcases iteE h with ⟨k1, h⟩ | ⟨k1, h⟩
  ·obtain ⟨v1, k2, h⟩ := z0b h
   obtain rfl := retE h
   exact fin (ok X) 1 (bT 3 [.s (z11 v1) (z12 v1)]) (pR 3 k1 (pA (z14 (X := X) k2) pT)) (by kernel_rfl)
  ·obtain ⟨v2, k3, h⟩ := z0b h
   obtain rfl := retE h
   exact fin (ok X) 1 (bF 3 [.s (z11 v2) (z12 v2)]) (pR 3 k1 (pA (z14 (X := X) k3) pT)) (by kernel_rfl)
 ·obtain ⟨v3, k4, h⟩ := z0b h
  obtain ⟨v4, k5, h⟩ := z0b h
  obtain rfl := retE h
  exact fin (ok X) 1 [.c (zkp v3), .s (z02 v4) (z03 v4)] (pA (znn (X := X) k4) (pA (z04 (X := X) k5) pT)) (by kernel_rfl)

theorem z6w {a0 : z00} {a1 : z1z} {r : z00} (h : z29 a0 a1 = some r) : Cs Tryd.prog (GX X) 10 [xP 0 0, .agg (bs (z1r a1))] [oB 70 [.row 1, .pv (.bool a0.f_form), .pv (.bool a0.f_deep), .pv (.int .i64 a0.f_blocks), .pv (.int .i64 a0.f_parens)], oR false 9 1 (List.map z0j a0.f_out)] (z3i r) (z3j r) := by
 refine fnT (cx := cx X) Tryd.f10 Tryd.call10 Tryd.func10 (by kernel_rfl) ?_
 unfold z29 at h
 obtain ⟨v1, k1, h⟩ := z0b h
 obtain ⟨v2, k2, h⟩ := z0b h
 refine adv (ok X) 8 [.s (z02 v1) (z03 v1), .s (z0k v2) (z0l v2)] (pA (z04 (X := X) k1) (pA (z0n (X := X) k2) pT)) (by kernel_rfl) ?_
 refine jn (ok X) 1 (fun (j1 : Bool) => ⟨77, 2, [(0, [xP 0 0]), (3, [xP 2 0]), (20, [xB j1])], [oB 70 [.row 1, .pv (.bool v2.f_form), .pv (.bool v2.f_deep), .pv (.int .i64 v2.f_blocks), .pv (.int .i64 v2.f_parens)], oR true 9 1 (List.map z0j v2.f_out), oB 71 (bs (z1r a1))]⟩) h (fun j1 h => ?_) (fun j1 h => ?_)
 ·rcases iteE h with ⟨k3, h⟩ | ⟨k3, h⟩
  ·obtain rfl := retE h
   exact fin (ok X) 1 (bT 4 []) (pR 4 k3 pT) (by kernel_rfl)
  ·obtain rfl := retE h
   exact fin (ok X) 1 (bF 4 []) (pR 4 k3 pT) (by kernel_rfl)
 ·rcases iteE h with ⟨k4, h⟩ | ⟨k4, h⟩
  ·obtain ⟨v3, k5, h⟩ := z0b h
   obtain ⟨v4, k6, h⟩ := z0b h
   obtain ⟨v5, k7, h⟩ := z0b h
   obtain ⟨v6, k8, h⟩ := z0b h
   obtain ⟨v7, k9, h⟩ := z0b h
   obtain ⟨v8, k10, h⟩ := z0b h
   obtain ⟨v9, k11, h⟩ := z0b h
   obtain ⟨v10, k12, h⟩ := z0b h
   refine adv (ok X) 19 [.b true, .s (z11 v3) (z12 v3), .s (z23 v4) (z24 v4), .s (z02 v5) (z03 v5), .s (z0k v6) (z0l v6), .s (z02 v7) (z03 v7), .s (z0k v8) (z0l v8), .s (z02 v9) (z03 v9), .i (a1.Tags.length : Int), .s (z11 v10) (z12 v10), .i (a1.Tags.length : Int)] (pA k4 (pA (z14 (X := X) k5) (pA (z2f (X := X) k6) (pA (z04 (X := X) k7) (pA (z0n (X := X) k8) (pA (z04 (X := X) k9) (pA (z0n (X := X) k10) (pA (z04 (X := X) k11) (pA (lm z0j a1.Tags) (pA (z14 (X := X) k12) (pA (lm z0j a1.Tags) pT))))))))))) (by kernel_rfl) ?_
   refine lp (ok X) (z1m a1) (fun (x2 : (Int × Bool × Bool × Int × Int × (List ByteArray))) => ⟨77, 2, [(0, [xP 0 0]), (58, [xL (List.map z0j a1.Tags)]), (59, [xI (a1.Tags.length : Int)]), (60, [xI x2.1])], [oB 70 [.row 1, .pv (.bool x2.2.1), .pv (.bool x2.2.2.1), .pv (.int .i64 x2.2.2.2.1), .pv (.int .i64 x2.2.2.2.2.1)], oR true 9 1 (List.map z0j x2.2.2.2.2.2)]⟩) (fun (j2 : (Bool × Bool × Int × Int × (List ByteArray))) => ⟨77, 2, [(0, [xP 0 0])], [oB 70 [.row 1, .pv (.bool j2.1), .pv (.bool j2.2.1), .pv (.int .i64 j2.2.2.1), .pv (.int .i64 j2.2.2.2.1)], oR true 9 1 (List.map z0j j2.2.2.2.2)]⟩) z4o (0, v10.f_form, v10.f_deep, v10.f_blocks, v10.f_parens, v10.f_out) (fun _ => ⟨_, _, _, _, rfl⟩) h (by kernel_rfl) (fun x2 o h => ?_) (fun r' h => ?_) (fun j2 h => ?_)
   ·unfold z1m at h
    rcases iteE h with ⟨k13, h⟩ | ⟨k13, h⟩
    ·refine adv (ok X) 6 [.b true] (pA k13 pT) (by kernel_rfl) ?_
     refine jn (ok X) 1 (fun (j3 : (Bool × Bool × Int × Int × (List ByteArray))) => ⟨77, 2, [(0, [xP 0 0]), (58, [xL (List.map z0j a1.Tags)]), (59, [xI (a1.Tags.length : Int)]), (60, [xI x2.1])], [oB 70 [.row 1, .pv (.bool j3.1), .pv (.bool j3.2.1), .pv (.int .i64 j3.2.2.1), .pv (.int .i64 j3.2.2.2.1)], oR true 9 1 (List.map z0j j3.2.2.2.2)]⟩) h (fun j3 h => ?_) (fun j3 h => ?_)
     ·obtain ⟨v11, k14, h⟩ := z0b h
      refine adv (ok X) 6 [.e [.str v11]] (pA (ixm z0j k14) pT) (by kernel_rfl) ?_
      rcases iteE h with ⟨k15, h⟩ | ⟨k15, h⟩
      ·obtain ⟨v12, k16, h⟩ := z0b h
       obtain ⟨v13, k17, h⟩ := z0b h
       obtain rfl := retE h
       exact fin (ok X) 4 [.b true, .s (z02 v12) (z03 v12), .s (z0k v13) (z0l v13)] (pA k15 (pA (z04 (X := X) k16) (pA (z0n (X := X) k17) pT))) (by kernel_rfl)
      ·obtain ⟨v14, k18, h⟩ := z0b h
       obtain rfl := retE h
       exact fin (ok X) 4 [.b false, .s (z0k v14) (z0l v14)] (pA k15 (pA (z0n (X := X) k18) pT)) (by kernel_rfl)
     ·obtain rfl := retE h
      exact fin (ok X) 1 [] pT (by kernel_rfl)
    ·obtain rfl := retE h
     exact fin (ok X) 5 [.b false] (pA k13 pT) (by kernel_rfl)
   ·cases h
   ·obtain ⟨v15, k19, h⟩ := z0b h
    obtain rfl := retE h
    exact fin (ok X) 1 [.s (z02 v15) (z03 v15)] (pA (z04 (X := X) k19) pT) (by kernel_rfl)
  ·obtain ⟨v16, k20, h⟩ := z0b h
   obtain ⟨v17, k21, h⟩ := z0b h
   obtain ⟨v18, k22, h⟩ := z0b h
   obtain ⟨v19, k23, h⟩ := z0b h
   obtain ⟨v20, k24, h⟩ := z0b h
   obtain ⟨v21, k25, h⟩ := z0b h
   obtain ⟨v22, k26, h⟩ := z0b h
   obtain ⟨v23, k27, h⟩ := z0b h
   obtain ⟨v24, k28, h⟩ := z0b h
   refine adv (ok X) 19 [.b false, .e [.str v16], .s (z02 v17) (z03 v17), .s (z23 v18) (z24 v18), .s (z02 v19) (z03 v19), .s (z0k v20) (z0l v20), .s (z02 v21) (z03 v21), .s (z0k v22) (z0l v22), .s (z02 v23) (z03 v23), .i (a1.Tags.length : Int), .s (z11 v24) (z12 v24), .i (a1.Tags.length : Int)] (pA k4 (pA (ixm z0j k20) (pA (z04 (X := X) k21) (pA (z2f (X := X) k22) (pA (z04 (X := X) k23) (pA (z0n (X := X) k24) (pA (z04 (X := X) k25) (pA (z0n (X := X) k26) (pA (z04 (X := X) k27) (pA (lm z0j a1.Tags) (pA (z14 (X := X) k28) (pA (lm z0j a1.Tags) pT)))))))))))) (by kernel_rfl) ?_
   refine lp (ok X) (z1n a1) (fun (x4 : (Int × Bool × Bool × Int × Int × (List ByteArray))) => ⟨77, 2, [(0, [xP 0 0]), (58, [xL (List.map z0j a1.Tags)]), (59, [xI (a1.Tags.length : Int)]), (60, [xI x4.1])], [oB 70 [.row 1, .pv (.bool x4.2.1), .pv (.bool x4.2.2.1), .pv (.int .i64 x4.2.2.2.1), .pv (.int .i64 x4.2.2.2.2.1)], oR true 9 1 (List.map z0j x4.2.2.2.2.2)]⟩) (fun (j4 : (Bool × Bool × Int × Int × (List ByteArray))) => ⟨77, 2, [(0, [xP 0 0])], [oB 70 [.row 1, .pv (.bool j4.1), .pv (.bool j4.2.1), .pv (.int .i64 j4.2.2.1), .pv (.int .i64 j4.2.2.2.1)], oR true 9 1 (List.map z0j j4.2.2.2.2)]⟩) z4o (0, v24.f_form, v24.f_deep, v24.f_blocks, v24.f_parens, v24.f_out) (fun _ => ⟨_, _, _, _, rfl⟩) h (by kernel_rfl) (fun x4 o h => ?_) (fun r' h => ?_) (fun j4 h => ?_)
   ·unfold z1n at h
    rcases iteE h with ⟨k29, h⟩ | ⟨k29, h⟩
    ·refine adv (ok X) 6 [.b true] (pA k29 pT) (by kernel_rfl) ?_
     refine jn (ok X) 1 (fun (j5 : (Bool × Bool × Int × Int × (List ByteArray))) => ⟨77, 2, [(0, [xP 0 0]), (58, [xL (List.map z0j a1.Tags)]), (59, [xI (a1.Tags.length : Int)]), (60, [xI x4.1])], [oB 70 [.row 1, .pv (.bool j5.1), .pv (.bool j5.2.1), .pv (.int .i64 j5.2.2.1), .pv (.int .i64 j5.2.2.2.1)], oR true 9 1 (List.map z0j j5.2.2.2.2)]⟩) h (fun j5 h => ?_) (fun j5 h => ?_)
     ·obtain ⟨v25, k30, h⟩ := z0b h
      refine adv (ok X) 6 [.e [.str v25]] (pA (ixm z0j k30) pT) (by kernel_rfl) ?_
      rcases iteE h with ⟨k31, h⟩ | ⟨k31, h⟩
      ·obtain ⟨v26, k32, h⟩ := z0b h
       obtain ⟨v27, k33, h⟩ := z0b h
       obtain rfl := retE h
       exact fin (ok X) 4 [.b true, .s (z02 v26) (z03 v26), .s (z0k v27) (z0l v27)] (pA k31 (pA (z04 (X := X) k32) (pA (z0n (X := X) k33) pT))) (by kernel_rfl)
      ·obtain ⟨v28, k34, h⟩ := z0b h
       obtain rfl := retE h
       exact fin (ok X) 4 [.b false, .s (z0k v28) (z0l v28)] (pA k31 (pA (z0n (X := X) k34) pT)) (by kernel_rfl)
     ·obtain rfl := retE h
      exact fin (ok X) 1 [] pT (by kernel_rfl)
    ·obtain rfl := retE h
     exact fin (ok X) 5 [.b false] (pA k29 pT) (by kernel_rfl)
   ·cases h
   ·obtain ⟨v29, k35, h⟩ := z0b h
    obtain rfl := retE h
    exact fin (ok X) 1 [.s (z02 v29) (z03 v29)] (pA (z04 (X := X) k35) pT) (by kernel_rfl)

theorem z8o {a0 : z00} {a1 : z27} {r : z00} (h : z2r a0 a1 = some r) : Cs Tryd.prog (GX X) 11 [xP 0 0, .agg (bs (z28 a1))] [oB 70 [.row 1, .pv (.bool a0.f_form), .pv (.bool a0.f_deep), .pv (.int .i64 a0.f_blocks), .pv (.int .i64 a0.f_parens)], oR false 9 1 (List.map z0j a0.f_out)] (z4b r) (z4c r) := by
 refine fnT (cx := cx X) Tryd.f11 Tryd.call11 Tryd.func11 (by kernel_rfl) ?_
 unfold z2r at h
 obtain ⟨v1, k1, h⟩ := z0b h
 obtain ⟨v2, k2, h⟩ := z0b h
 obtain ⟨v3, k3, h⟩ := z0b h
 refine adv (ok X) 11 [.s (z02 v1) (z03 v1), .s (z0k v2) (z0l v2), .s (z02 v3) (z03 v3), .i (a1.Moves.length : Int)] (pA (z04 (X := X) k1) (pA (z0n (X := X) k2) (pA (z04 (X := X) k3) (pA (lm z3a a1.Moves) pT)))) (by kernel_rfl) ?_
 refine lp (ok X) (z1x a1) (fun (x1 : (Int × Bool × Bool × Int × Int × (List ByteArray))) => ⟨42, 2, [(0, [xP 0 0]), (17, [xL (List.map z3a a1.Moves)]), (18, [xI (a1.Moves.length : Int)]), (19, [xI x1.1])], [oB 70 [.row 1, .pv (.bool x1.2.1), .pv (.bool x1.2.2.1), .pv (.int .i64 x1.2.2.2.1), .pv (.int .i64 x1.2.2.2.2.1)], oR true 9 1 (List.map z0j x1.2.2.2.2.2)]⟩) (fun (j1 : (Bool × Bool × Int × Int × (List ByteArray))) => ⟨42, 2, [(0, [xP 0 0])], [oB 70 [.row 1, .pv (.bool j1.1), .pv (.bool j1.2.1), .pv (.int .i64 j1.2.2.1), .pv (.int .i64 j1.2.2.2.1)], oR true 9 1 (List.map z0j j1.2.2.2.2)]⟩) z8k (0, v3.f_form, v3.f_deep, v3.f_blocks, v3.f_parens, v3.f_out) (fun _ => ⟨_, _, _, _, rfl⟩) h (by kernel_rfl) (fun x1 o h => ?_) (fun r' h => ?_) (fun j1 h => ?_)
 ·unfold z1x at h
  rcases iteE h with ⟨k4, h⟩ | ⟨k4, h⟩
  ·obtain ⟨v4, k5, h⟩ := z0b h
   obtain ⟨v5, k6, h⟩ := z0b h
   obtain ⟨v6, k7, h⟩ := z0b h
   obtain ⟨v7, k8, h⟩ := z0b h
   obtain ⟨v8, k9, h⟩ := z0b h
   obtain rfl := retE h
   exact fin (ok X) 18 [.b true, .e (z3a v4), .s (z23 v5) (z24 v5), .s (z0k v6) (z0l v6), .s (z23 v7) (z24 v7), .s (z02 v8) (z03 v8)] (pA k4 (pA (ixm z3a k5) (pA (z2f (X := X) k6) (pA (z0n (X := X) k7) (pA (z2f (X := X) k8) (pA (z04 (X := X) k9) pT)))))) (by kernel_rfl)
  ·obtain rfl := retE h
   exact fin (ok X) 5 [.b false] (pA k4 pT) (by kernel_rfl)
 ·cases h
 ·obtain ⟨v9, k10, h⟩ := z0b h
  obtain rfl := retE h
  exact fin (ok X) 1 [.s (z02 v9) (z03 v9)] (pA (z04 (X := X) k10) pT) (by kernel_rfl)

theorem z6u {a0 : Int} {r : Bool} (h : z5y a0 = some r) : Cv Tryd.prog (GX X) 57 [xI a0] (z4u r) := by
 refine Cs.toV (?_ : Cs Tryd.prog (GX X) 57 [xI a0] [] (z4u r) (zgd r)) (by kernel_rfl)
 refine fnT (cx := cx X) Tryd.f57 Tryd.call57 Tryd.func57 (by kernel_rfl) ?_
 unfold z5y at h
 rcases iteE h with ⟨k1, h⟩ | ⟨k1, h⟩
 ·obtain rfl := retE h
  exact fin (ok X) 5 (bT 3 []) (pR 3 k1 pT) (by kernel_rfl)
 ·obtain rfl := retE h
  exact fin (ok X) 5 (bF 3 []) (pR 3 k1 pT) (by kernel_rfl)

theorem z4m {a0 : Int} {r : Bool} (h : z6f a0 = some r) : Cv Tryd.prog (GX X) 58 [xI a0] (z3p r) := by
 refine Cs.toV (?_ : Cs Tryd.prog (GX X) 58 [xI a0] [] (z3p r) (zic r)) (by kernel_rfl)
 refine fnT (cx := cx X) Tryd.f58 Tryd.call58 Tryd.func58 (by kernel_rfl) ?_
 unfold z6f at h
 rcases iteE h with ⟨k1, h⟩ | ⟨k1, h⟩
 ·obtain rfl := retE h
  exact fin (ok X) 5 (bT 3 []) (pR 3 k1 pT) (by kernel_rfl)
 ·obtain rfl := retE h
  exact fin (ok X) 5 (bF 3 []) (pR 3 k1 pT) (by kernel_rfl)

theorem z8p {a0 : z00} {a1 : z06} {r : z00} (h : z31 a0 a1 = some r) : Cs Tryd.prog (GX X) 59 [xP 0 0, .agg (bs (z0a a1))] [oB 70 [.row 1, .pv (.bool a0.f_form), .pv (.bool a0.f_deep), .pv (.int .i64 a0.f_blocks), .pv (.int .i64 a0.f_parens)], oR false 9 1 (List.map z0j a0.f_out)] (z5l r) (z5m r) := by
 refine fnT (cx := cx X) Tryd.f59 Tryd.call59 Tryd.func59 (by kernel_rfl) ?_
 unfold z31 at h
 obtain ⟨v1, k1, h⟩ := z0b h
 refine adv (ok X) 7 [.i (a1.Kids.length : Int), .s (z11 v1) (z12 v1)] (pA (lm z0x a1.Kids) (pA (z14 (X := X) k1) pT)) (by kernel_rfl) ?_
 rcases iteE h with ⟨k2, h⟩ | ⟨k2, h⟩
 ·obtain ⟨v2, k3, h⟩ := z0b h
  obtain rfl := retE h
  exact fin (ok X) 4 [.b true, .s (z23 v2) (z24 v2)] (pA k2 (pA (z2f (X := X) k3) pT)) (by kernel_rfl)
 ·obtain ⟨v3, k4, h⟩ := z0b h
  obtain ⟨v4, k5, h⟩ := z0b h
  obtain rfl := retE h
  exact fin (ok X) 5 [.b false, .s (z11 v3) (z12 v3), .s (z0k v4) (z0l v4)] (pA k2 (pA (z14 (X := X) k4) (pA (z0n (X := X) k5) pT))) (by kernel_rfl)

theorem z8q {n : Nat} (ih_ast_writer_expr : ∀ (a0 : z00) (a1 : z06) (r : z00), z0p n a0 a1 = some r → Cs Tryd.prog (GX X) 39 [xP 0 0, .agg (bs (z0a a1))] [oB 70 [.row 1, .pv (.bool a0.f_form), .pv (.bool a0.f_deep), .pv (.int .i64 a0.f_blocks), .pv (.int .i64 a0.f_parens)], oR false 9 1 (List.map z0j a0.f_out)] (z0y r) (z0z r)) (ih_ast_writer_deeper_ast_writer_expr_1 : ∀ (a0 : z00) (a1011 : z06) (r : z00), z08 n a0 a1011 = some r → Cs Tryd.prog (GX X) 54 [xP 0 0, .fn (.func 55) [] [.box 2 0, .box 3 0]] [oB 70 [.row 1, .pv (.bool a0.f_form), .pv (.bool a0.f_deep), .pv (.int .i64 a0.f_blocks), .pv (.int .i64 a0.f_parens)], oR false 9 1 (List.map z0j a0.f_out), oB 68 [.box 0 0], oB 102 (bs (z0a a1011))] (z0f r) (z0g a1011 r)) (ih_ast_writer_kid : ∀ (a0 : z00) (a1 : z06) (a2 : Bool) (r : z00), z0r n a0 a1 a2 = some r → Cs Tryd.prog (GX X) 56 [xP 0 0, .agg (bs (z0a a1)), xB a2] [oB 70 [.row 1, .pv (.bool a0.f_form), .pv (.bool a0.f_deep), .pv (.int .i64 a0.f_blocks), .pv (.int .i64 a0.f_parens)], oR false 9 1 (List.map z0j a0.f_out)] (z16 r) (z17 r)) (ih_ast_writer_expr_1 : ∀ (a0 : z00) (a1 : z06) (r : z00), z10 n a0 a1 = some r → Cs Tryd.prog (GX X) 55 [xP 0 0, xP 3 0] [oB 68 [.box 1 0], oB 70 [.row 2, .pv (.bool a0.f_form), .pv (.bool a0.f_deep), .pv (.int .i64 a0.f_blocks), .pv (.int .i64 a0.f_parens)], oR false 9 1 (List.map z0j a0.f_out), oB 102 (bs (z0a a1))] (z1g r) (z1h a1 r)) (ih_ast_writer_deeper_ast_writer_kid_1 : ∀ (a0 : z00) (a1011 : z06) (r : z00), z09 n a0 a1011 = some r → Cs Tryd.prog (GX X) 54 [xP 0 0, .fn (.func 74) [] [.box 2 0, .box 3 0]] [oB 70 [.row 1, .pv (.bool a0.f_form), .pv (.bool a0.f_deep), .pv (.int .i64 a0.f_blocks), .pv (.int .i64 a0.f_parens)], oR false 9 1 (List.map z0j a0.f_out), oB 68 [.box 0 0], oB 102 (bs (z0a a1011))] (z0h r) (z0i a1011 r)) (ih_ast_writer_kid_1 : ∀ (a0 : z00) (a1 : z06) (r : z00), z13 n a0 a1 = some r → Cs Tryd.prog (GX X) 74 [xP 0 0, xP 3 0] [oB 68 [.box 1 0], oB 70 [.row 2, .pv (.bool a0.f_form), .pv (.bool a0.f_deep), .pv (.int .i64 a0.f_blocks), .pv (.int .i64 a0.f_parens)], oR false 9 1 (List.map z0j a0.f_out), oB 102 (bs (z0a a1))] (z1j r) (z1k a1 r)) (a0 : z00) (a1 : z06) (r : z00) (h : z0p (n + 1) a0 a1 = some r) : Cs Tryd.prog (GX X) 39 [xP 0 0, .agg (bs (z0a a1))] [oB 70 [.row 1, .pv (.bool a0.f_form), .pv (.bool a0.f_deep), .pv (.int .i64 a0.f_blocks), .pv (.int .i64 a0.f_parens)], oR false 9 1 (List.map z0j a0.f_out)] (z0y r) (z0z r) := by
 refine fnT (cx := cx X) Tryd.f39 Tryd.call39 Tryd.func39 (by kernel_rfl) ?_
 rw [z0p] at h
 refine adv (ok X) 4 [] pT (by kernel_rfl) ?_
 refine jn (ok X) 1 (fun (j1 : Bool) => ⟨80, 2, [(2, [xP 2 0]), (3, [xP 3 0]), (9, [xB j1])], [oB 70 [.row 1, .pv (.bool a0.f_form), .pv (.bool a0.f_deep), .pv (.int .i64 a0.f_blocks), .pv (.int .i64 a0.f_parens)], oR false 9 1 (List.map z0j a0.f_out), oB 68 [.box 0 0], oB 102 (bs (z0a a1))]⟩) h (fun j1 h => ?_) (fun j1 h => ?_)
 ·rcases iteE h with ⟨k1, h⟩ | ⟨k1, h⟩
  ·obtain rfl := retE h
   exact fin (ok X) 1 (bT 3 [.i (a1.Kids.length : Int), .b true, .b true]) (pR 3 k1 (pA (lm z0x a1.Kids) (pA k1 (pA k1 pT)))) (by kernel_rfl)
  ·obtain rfl := retE h
   exact fin (ok X) 1 (bF 5 []) (pR 5 k1 pT) (by kernel_rfl)
 ·rcases iteE h with ⟨k2, h⟩ | ⟨k2, h⟩
  ·obtain ⟨v1, k3, h⟩ := z0b h
   obtain ⟨v2, k4, h⟩ := z0b h
   obtain rfl := retE h
   exact fin (ok X) 5 [.b true, .s (z02 v1) (z03 v1), .s (z0f v2) (z0g a1 v2)] (pA k2 (pA (z04 (X := X) k3) (pA (ih_ast_writer_deeper_ast_writer_expr_1 _ _ _ k4) pT))) (by kernel_rfl)
  ·refine adv (ok X) 2 [.b false] (pA k2 pT) (by kernel_rfl) ?_
   refine jn (ok X) 1 (fun (j2 : Bool) => ⟨80, 2, [(2, [xP 2 0]), (3, [xP 3 0]), (25, [xB j2])], [oB 70 [.row 1, .pv (.bool a0.f_form), .pv (.bool a0.f_deep), .pv (.int .i64 a0.f_blocks), .pv (.int .i64 a0.f_parens)], oR false 9 1 (List.map z0j a0.f_out), oB 68 [.box 0 0], oB 102 (bs (z0a a1))]⟩) h (fun j2 h => ?_) (fun j2 h => ?_)
   ·obtain ⟨v3, k5, h⟩ := z0b h
    rcases iteE h with ⟨k6, h⟩ | ⟨k6, h⟩
    ·obtain rfl := retE h
     exact fin (ok X) 1 (.c (z4u v3) :: bT 3 [.i (a1.Kids.length : Int), .b true, .b true]) (pA (z6u (X := X) k5) (pR 3 k6 (pA (lm z0x a1.Kids) (pA k6 (pA k6 pT))))) (by kernel_rfl)
    ·obtain rfl := retE h
     exact fin (ok X) 1 (.c (z4u v3) :: bF 5 []) (pA (z6u (X := X) k5) (pR 5 k6 pT)) (by kernel_rfl)
   ·rcases iteE h with ⟨k7, h⟩ | ⟨k7, h⟩
    ·obtain ⟨v4, k8, h⟩ := z0b h
     obtain ⟨v5, k9, h⟩ := z0b h
     refine adv (ok X) 4 [.b true, .o [0, 1, 2, 3, 4, 5, 6, 7, 8, 9, 10, 11], .e (z0a v4), .e (z0a v5)] (pA k7 (pA (ixr z3b k8) (pA (ixr z3b k9) pT))) (by kernel_rfl) ?_
     refine jn (ok X) 1 (fun (j3 : (Bool × Bool × Int × Int × (List ByteArray))) => ⟨80, 2, [(2, [xP 2 0]), (3, [xP 3 0]), (5, [xP 5 0])], [oB 70 [.row 1, .pv (.bool j3.1), .pv (.bool j3.2.1), .pv (.int .i64 j3.2.2.1), .pv (.int .i64 j3.2.2.2.1)], oR true 9 1 (List.map z0j j3.2.2.2.2), oB 68 [.box 0 0], oB 102 (bs (z0a a1)), none, oB 102 (bs (z0a v5))]⟩) h (fun j3 h => ?_) (fun j3 h => ?_)
     ·obtain ⟨v6, k10, h⟩ := z0b h
      rcases iteE h with ⟨k11, h⟩ | ⟨k11, h⟩
      ·obtain ⟨v7, k12, h⟩ := z0b h
       obtain ⟨v8, k13, h⟩ := z0b h
       obtain rfl := retE h
       exact fin (ok X) 1 (.o [0, 1, 2, 3, 4, 5, 6, 7, 8, 9, 10, 11] :: .c (z3p v6) :: bT 3 [.c (z3p v7), .b true, .s (z16 v8) (z17 v8)]) (pA (z4m (X := X) k10) (pR 3 k11 (pA (z4m (X := X) k12) (pA k11 (pA (ih_ast_writer_kid _ _ _ _ k13) pT))))) (by kernel_rfl)
      ·obtain ⟨v9, k14, h⟩ := z0b h
       obtain rfl := retE h
       exact fin (ok X) 1 (.o [0, 1, 2, 3, 4, 5, 6, 7, 8, 9, 10, 11] :: .c (z3p v6) :: bF 4 [.s (z16 v9) (z17 v9)]) (pA (z4m (X := X) k10) (pR 4 k11 (pA (ih_ast_writer_kid _ _ _ _ k14) pT))) (by kernel_rfl)
     ·obtain ⟨v10, k15, h⟩ := z0b h
      obtain ⟨v11, k16, h⟩ := z0b h
      refine adv (ok X) 2 [.o [0, 1, 2, 3, 4, 5, 6, 7], .e [.str v10], .s (z02 v11) (z03 v11)] (pA (ixm z0j k15) (pA (z04 (X := X) k16) pT)) (by kernel_rfl) ?_
      obtain ⟨v12, k17, h⟩ := z0b h
      rcases iteE h with ⟨k18, h⟩ | ⟨k18, h⟩
      ·obtain ⟨v13, k19, h⟩ := z0b h
       obtain rfl := retE h
       exact fin (ok X) 2 (.o [0, 1, 2, 3, 4, 5, 6, 7, 8, 9, 10, 11, 12, 13, 14, 15, 16] :: .c (z3p v12) :: bT 7 [.s (z16 v13) (z17 v13)]) (pA (z4m (X := X) k17) (pR 7 k18 (pA (ih_ast_writer_kid _ _ _ _ k19) pT))) (by kernel_rfl)
      ·obtain ⟨v14, k20, h⟩ := z0b h
       rcases iteE h with ⟨k21, h⟩ | ⟨k21, h⟩
       ·obtain ⟨v15, k22, h⟩ := z0b h
        obtain ⟨v16, k23, h⟩ := z0b h
        obtain rfl := retE h
        exact fin (ok X) 2 (.o [0, 1, 2, 3, 4, 5, 6, 7, 8, 9, 10, 11, 12, 13, 14, 15, 16] :: .c (z3p v12) :: bF 3 (.c (z3p v14) :: .b false :: .b false :: bT 3 [.c (z4u v15), .b false, .b true, .b false, .s (z16 v16) (z17 v16)])) (pA (z4m (X := X) k17) (pR 3 k18 (pA (z4m (X := X) k20) (pA k18 (pA k18 (pR 3 k21 (pA (z6u (X := X) k22) (pA k18 (pA k21 (pA k18 (pA (ih_ast_writer_kid _ _ _ _ k23) pT))))))))))) (by kernel_rfl)
       ·obtain ⟨v17, k24, h⟩ := z0b h
        obtain rfl := retE h
        exact fin (ok X) 2 (.o [0, 1, 2, 3, 4, 5, 6, 7, 8, 9, 10, 11, 12, 13, 14, 15, 16] :: .c (z3p v12) :: bF 3 (.c (z3p v14) :: bF 8 [.s (z16 v17) (z17 v17)])) (pA (z4m (X := X) k17) (pR 3 k18 (pA (z4m (X := X) k20) (pA k18 (pA k18 (pR 3 k21 (pA k18 (pA k21 (pA k18 (pA (ih_ast_writer_kid _ _ _ _ k24) pT)))))))))) (by kernel_rfl)
    ·obtain ⟨v18, k25, h⟩ := z0b h
     obtain rfl := retE h
     exact fin (ok X) 3 [.b false, .s (z5l v18) (z5m v18)] (pA k7 (pA (z8p (X := X) k25) pT)) (by kernel_rfl)

theorem z3k {n : Nat} (ih_ast_writer_expr : ∀ (a0 : z00) (a1 : z06) (r : z00), z0p n a0 a1 = some r → Cs Tryd.prog (GX X) 39 [xP 0 0, .agg (bs (z0a a1))] [oB 70 [.row 1, .pv (.bool a0.f_form), .pv (.bool a0.f_deep), .pv (.int .i64 a0.f_blocks), .pv (.int .i64 a0.f_parens)], oR false 9 1 (List.map z0j a0.f_out)] (z0y r) (z0z r)) (ih_ast_writer_deeper_ast_writer_expr_1 : ∀ (a0 : z00) (a1011 : z06) (r : z00), z08 n a0 a1011 = some r → Cs Tryd.prog (GX X) 54 [xP 0 0, .fn (.func 55) [] [.box 2 0, .box 3 0]] [oB 70 [.row 1, .pv (.bool a0.f_form), .pv (.bool a0.f_deep), .pv (.int .i64 a0.f_blocks), .pv (.int .i64 a0.f_parens)], oR false 9 1 (List.map z0j a0.f_out), oB 68 [.box 0 0], oB 102 (bs (z0a a1011))] (z0f r) (z0g a1011 r)) (ih_ast_writer_kid : ∀ (a0 : z00) (a1 : z06) (a2 : Bool) (r : z00), z0r n a0 a1 a2 = some r → Cs Tryd.prog (GX X) 56 [xP 0 0, .agg (bs (z0a a1)), xB a2] [oB 70 [.row 1, .pv (.bool a0.f_form), .pv (.bool a0.f_deep), .pv (.int .i64 a0.f_blocks), .pv (.int .i64 a0.f_parens)], oR false 9 1 (List.map z0j a0.f_out)] (z16 r) (z17 r)) (ih_ast_writer_expr_1 : ∀ (a0 : z00) (a1 : z06) (r : z00), z10 n a0 a1 = some r → Cs Tryd.prog (GX X) 55 [xP 0 0, xP 3 0] [oB 68 [.box 1 0], oB 70 [.row 2, .pv (.bool a0.f_form), .pv (.bool a0.f_deep), .pv (.int .i64 a0.f_blocks), .pv (.int .i64 a0.f_parens)], oR false 9 1 (List.map z0j a0.f_out), oB 102 (bs (z0a a1))] (z1g r) (z1h a1 r)) (ih_ast_writer_deeper_ast_writer_kid_1 : ∀ (a0 : z00) (a1011 : z06) (r : z00), z09 n a0 a1011 = some r → Cs Tryd.prog (GX X) 54 [xP 0 0, .fn (.func 74) [] [.box 2 0, .box 3 0]] [oB 70 [.row 1, .pv (.bool a0.f_form), .pv (.bool a0.f_deep), .pv (.int .i64 a0.f_blocks), .pv (.int .i64 a0.f_parens)], oR false 9 1 (List.map z0j a0.f_out), oB 68 [.box 0 0], oB 102 (bs (z0a a1011))] (z0h r) (z0i a1011 r)) (ih_ast_writer_kid_1 : ∀ (a0 : z00) (a1 : z06) (r : z00), z13 n a0 a1 = some r → Cs Tryd.prog (GX X) 74 [xP 0 0, xP 3 0] [oB 68 [.box 1 0], oB 70 [.row 2, .pv (.bool a0.f_form), .pv (.bool a0.f_deep), .pv (.int .i64 a0.f_blocks), .pv (.int .i64 a0.f_parens)], oR false 9 1 (List.map z0j a0.f_out), oB 102 (bs (z0a a1))] (z1j r) (z1k a1 r)) (a0 : z00) (a1011 : z06) (r : z00) (h : z08 (n + 1) a0 a1011 = some r) : Cs Tryd.prog (GX X) 54 [xP 0 0, .fn (.func 55) [] [.box 2 0, .box 3 0]] [oB 70 [.row 1, .pv (.bool a0.f_form), .pv (.bool a0.f_deep), .pv (.int .i64 a0.f_blocks), .pv (.int .i64 a0.f_parens)], oR false 9 1 (List.map z0j a0.f_out), oB 68 [.box 0 0], oB 102 (bs (z0a a1011))] (z0f r) (z0g a1011 r) := by
 refine fnT (cx := cx X) Tryd.f54 Tryd.call54 Tryd.func54 (by kernel_rfl) ?_
 rw [z08] at h
 refine adv (ok X) 3 [] pT (by kernel_rfl) ?_
 refine jn (ok X) 1 (fun (j1 : Bool) => ⟨34, 4, [(0, [xP 0 0]), (1, [.fn (.func 55) [] [.box 2 0, .box 3 0]])], [oB 70 [.row 1, .pv (.bool a0.f_form), .pv (.bool j1), .pv (.int .i64 a0.f_blocks), .pv (.int .i64 (IntKind.i64.wrap (a0.f_parens + 1)))], oR false 9 1 (List.map z0j a0.f_out), oB 68 [.box 0 0], oB 102 (bs (z0a a1011))]⟩) h (fun j1 h => ?_) (fun j1 h => ?_)
 ·rcases iteE h with ⟨k1, h⟩ | ⟨k1, h⟩
  ·obtain rfl := retE h
   exact fin (ok X) 1 (bT 6 []) (pR 6 k1 pT) (by kernel_rfl)
  ·obtain rfl := retE h
   exact fin (ok X) 1 (bF 6 []) (pR 6 k1 pT) (by kernel_rfl)
 ·obtain ⟨v1, k2, h⟩ := z0b h
  obtain rfl := retE h
  exact fin (ok X) 3 [.s (z1g v1) (z1h a1011 v1)] (pA (ih_ast_writer_expr_1 _ _ _ k2) pT) (by kernel_rfl)

theorem z94 {n : Nat} (ih_ast_writer_expr : ∀ (a0 : z00) (a1 : z06) (r : z00), z0p n a0 a1 = some r → Cs Tryd.prog (GX X) 39 [xP 0 0, .agg (bs (z0a a1))] [oB 70 [.row 1, .pv (.bool a0.f_form), .pv (.bool a0.f_deep), .pv (.int .i64 a0.f_blocks), .pv (.int .i64 a0.f_parens)], oR false 9 1 (List.map z0j a0.f_out)] (z0y r) (z0z r)) (ih_ast_writer_deeper_ast_writer_expr_1 : ∀ (a0 : z00) (a1011 : z06) (r : z00), z08 n a0 a1011 = some r → Cs Tryd.prog (GX X) 54 [xP 0 0, .fn (.func 55) [] [.box 2 0, .box 3 0]] [oB 70 [.row 1, .pv (.bool a0.f_form), .pv (.bool a0.f_deep), .pv (.int .i64 a0.f_blocks), .pv (.int .i64 a0.f_parens)], oR false 9 1 (List.map z0j a0.f_out), oB 68 [.box 0 0], oB 102 (bs (z0a a1011))] (z0f r) (z0g a1011 r)) (ih_ast_writer_kid : ∀ (a0 : z00) (a1 : z06) (a2 : Bool) (r : z00), z0r n a0 a1 a2 = some r → Cs Tryd.prog (GX X) 56 [xP 0 0, .agg (bs (z0a a1)), xB a2] [oB 70 [.row 1, .pv (.bool a0.f_form), .pv (.bool a0.f_deep), .pv (.int .i64 a0.f_blocks), .pv (.int .i64 a0.f_parens)], oR false 9 1 (List.map z0j a0.f_out)] (z16 r) (z17 r)) (ih_ast_writer_expr_1 : ∀ (a0 : z00) (a1 : z06) (r : z00), z10 n a0 a1 = some r → Cs Tryd.prog (GX X) 55 [xP 0 0, xP 3 0] [oB 68 [.box 1 0], oB 70 [.row 2, .pv (.bool a0.f_form), .pv (.bool a0.f_deep), .pv (.int .i64 a0.f_blocks), .pv (.int .i64 a0.f_parens)], oR false 9 1 (List.map z0j a0.f_out), oB 102 (bs (z0a a1))] (z1g r) (z1h a1 r)) (ih_ast_writer_deeper_ast_writer_kid_1 : ∀ (a0 : z00) (a1011 : z06) (r : z00), z09 n a0 a1011 = some r → Cs Tryd.prog (GX X) 54 [xP 0 0, .fn (.func 74) [] [.box 2 0, .box 3 0]] [oB 70 [.row 1, .pv (.bool a0.f_form), .pv (.bool a0.f_deep), .pv (.int .i64 a0.f_blocks), .pv (.int .i64 a0.f_parens)], oR false 9 1 (List.map z0j a0.f_out), oB 68 [.box 0 0], oB 102 (bs (z0a a1011))] (z0h r) (z0i a1011 r)) (ih_ast_writer_kid_1 : ∀ (a0 : z00) (a1 : z06) (r : z00), z13 n a0 a1 = some r → Cs Tryd.prog (GX X) 74 [xP 0 0, xP 3 0] [oB 68 [.box 1 0], oB 70 [.row 2, .pv (.bool a0.f_form), .pv (.bool a0.f_deep), .pv (.int .i64 a0.f_blocks), .pv (.int .i64 a0.f_parens)], oR false 9 1 (List.map z0j a0.f_out), oB 102 (bs (z0a a1))] (z1j r) (z1k a1 r)) (a0 : z00) (a1 : z06) (a2 : Bool) (r : z00) (h : z0r (n + 1) a0 a1 a2 = some r) : Cs Tryd.prog (GX X) 56 [xP 0 0, .agg (bs (z0a a1)), xB a2] [oB 70 [.row 1, .pv (.bool a0.f_form), .pv (.bool a0.f_deep), .pv (.int .i64 a0.f_blocks), .pv (.int .i64 a0.f_parens)], oR false 9 1 (List.map z0j a0.f_out)] (z16 r) (z17 r) := by
 refine fnT (cx := cx X) Tryd.f56 Tryd.call56 Tryd.func56 (by kernel_rfl) ?_
 rw [z0r] at h
 rcases iteE h with ⟨k1, h⟩ | ⟨k1, h⟩
 ·obtain ⟨v1, k2, h⟩ := z0b h
  obtain rfl := retE h
  exact fin (ok X) 9 [.b true, .s (z0y v1) (z0z v1)] (pA k1 (pA (ih_ast_writer_expr _ _ _ k2) pT)) (by kernel_rfl)
 ·obtain ⟨v2, k3, h⟩ := z0b h
  obtain ⟨v3, k4, h⟩ := z0b h
  obtain ⟨v4, k5, h⟩ := z0b h
  obtain rfl := retE h
  exact fin (ok X) 12 [.b false, .s (z02 v2) (z03 v2), .s (z0h v3) (z0i a1 v3), .s (z02 v4) (z03 v4)] (pA k1 (pA (z04 (X := X) k3) (pA (ih_ast_writer_deeper_ast_writer_kid_1 _ _ _ k4) (pA (z04 (X := X) k5) pT)))) (by kernel_rfl)

theorem z7d {n : Nat} (ih_ast_writer_expr : ∀ (a0 : z00) (a1 : z06) (r : z00), z0p n a0 a1 = some r → Cs Tryd.prog (GX X) 39 [xP 0 0, .agg (bs (z0a a1))] [oB 70 [.row 1, .pv (.bool a0.f_form), .pv (.bool a0.f_deep), .pv (.int .i64 a0.f_blocks), .pv (.int .i64 a0.f_parens)], oR false 9 1 (List.map z0j a0.f_out)] (z0y r) (z0z r)) (ih_ast_writer_deeper_ast_writer_expr_1 : ∀ (a0 : z00) (a1011 : z06) (r : z00), z08 n a0 a1011 = some r → Cs Tryd.prog (GX X) 54 [xP 0 0, .fn (.func 55) [] [.box 2 0, .box 3 0]] [oB 70 [.row 1, .pv (.bool a0.f_form), .pv (.bool a0.f_deep), .pv (.int .i64 a0.f_blocks), .pv (.int .i64 a0.f_parens)], oR false 9 1 (List.map z0j a0.f_out), oB 68 [.box 0 0], oB 102 (bs (z0a a1011))] (z0f r) (z0g a1011 r)) (ih_ast_writer_kid : ∀ (a0 : z00) (a1 : z06) (a2 : Bool) (r : z00), z0r n a0 a1 a2 = some r → Cs Tryd.prog (GX X) 56 [xP 0 0, .agg (bs (z0a a1)), xB a2] [oB 70 [.row 1, .pv (.bool a0.f_form), .pv (.bool a0.f_deep), .pv (.int .i64 a0.f_blocks), .pv (.int .i64 a0.f_parens)], oR false 9 1 (List.map z0j a0.f_out)] (z16 r) (z17 r)) (ih_ast_writer_expr_1 : ∀ (a0 : z00) (a1 : z06) (r : z00), z10 n a0 a1 = some r → Cs Tryd.prog (GX X) 55 [xP 0 0, xP 3 0] [oB 68 [.box 1 0], oB 70 [.row 2, .pv (.bool a0.f_form), .pv (.bool a0.f_deep), .pv (.int .i64 a0.f_blocks), .pv (.int .i64 a0.f_parens)], oR false 9 1 (List.map z0j a0.f_out), oB 102 (bs (z0a a1))] (z1g r) (z1h a1 r)) (ih_ast_writer_deeper_ast_writer_kid_1 : ∀ (a0 : z00) (a1011 : z06) (r : z00), z09 n a0 a1011 = some r → Cs Tryd.prog (GX X) 54 [xP 0 0, .fn (.func 74) [] [.box 2 0, .box 3 0]] [oB 70 [.row 1, .pv (.bool a0.f_form), .pv (.bool a0.f_deep), .pv (.int .i64 a0.f_blocks), .pv (.int .i64 a0.f_parens)], oR false 9 1 (List.map z0j a0.f_out), oB 68 [.box 0 0], oB 102 (bs (z0a a1011))] (z0h r) (z0i a1011 r)) (ih_ast_writer_kid_1 : ∀ (a0 : z00) (a1 : z06) (r : z00), z13 n a0 a1 = some r → Cs Tryd.prog (GX X) 74 [xP 0 0, xP 3 0] [oB 68 [.box 1 0], oB 70 [.row 2, .pv (.bool a0.f_form), .pv (.bool a0.f_deep), .pv (.int .i64 a0.f_blocks), .pv (.int .i64 a0.f_parens)], oR false 9 1 (List.map z0j a0.f_out), oB 102 (bs (z0a a1))] (z1j r) (z1k a1 r)) (a0 : z00) (a1 : z06) (r : z00) (h : z10 (n + 1) a0 a1 = some r) : Cs Tryd.prog (GX X) 55 [xP 0 0, xP 3 0] [oB 68 [.box 1 0], oB 70 [.row 2, .pv (.bool a0.f_form), .pv (.bool a0.f_deep), .pv (.int .i64 a0.f_blocks), .pv (.int .i64 a0.f_parens)], oR false 9 1 (List.map z0j a0.f_out), oB 102 (bs (z0a a1))] (z1g r) (z1h a1 r) := by
 refine fnT (cx := cx X) Tryd.f55 Tryd.call55 Tryd.func55 (by kernel_rfl) ?_
 rw [z10] at h
 obtain ⟨v1, k1, h⟩ := z0b h
 obtain ⟨v2, k2, h⟩ := z0b h
 obtain ⟨v3, k3, h⟩ := z0b h
 obtain rfl := retE h
 exact fin (ok X) 1 [.o [0, 1, 2, 3, 4, 5, 6, 7, 8, 9, 10, 11], .e (z0a v1), .e (z0a v1), .c (z4u v2), .s (z16 v3) (z17 v3)] (pA (ixr z3b k1) (pA (ixr z3b k1) (pA (z6u (X := X) k2) (pA (ih_ast_writer_kid _ _ _ _ k3) pT)))) (by kernel_rfl)

theorem z3q {n : Nat} (ih_ast_writer_expr : ∀ (a0 : z00) (a1 : z06) (r : z00), z0p n a0 a1 = some r → Cs Tryd.prog (GX X) 39 [xP 0 0, .agg (bs (z0a a1))] [oB 70 [.row 1, .pv (.bool a0.f_form), .pv (.bool a0.f_deep), .pv (.int .i64 a0.f_blocks), .pv (.int .i64 a0.f_parens)], oR false 9 1 (List.map z0j a0.f_out)] (z0y r) (z0z r)) (ih_ast_writer_deeper_ast_writer_expr_1 : ∀ (a0 : z00) (a1011 : z06) (r : z00), z08 n a0 a1011 = some r → Cs Tryd.prog (GX X) 54 [xP 0 0, .fn (.func 55) [] [.box 2 0, .box 3 0]] [oB 70 [.row 1, .pv (.bool a0.f_form), .pv (.bool a0.f_deep), .pv (.int .i64 a0.f_blocks), .pv (.int .i64 a0.f_parens)], oR false 9 1 (List.map z0j a0.f_out), oB 68 [.box 0 0], oB 102 (bs (z0a a1011))] (z0f r) (z0g a1011 r)) (ih_ast_writer_kid : ∀ (a0 : z00) (a1 : z06) (a2 : Bool) (r : z00), z0r n a0 a1 a2 = some r → Cs Tryd.prog (GX X) 56 [xP 0 0, .agg (bs (z0a a1)), xB a2] [oB 70 [.row 1, .pv (.bool a0.f_form), .pv (.bool a0.f_deep), .pv (.int .i64 a0.f_blocks), .pv (.int .i64 a0.f_parens)], oR false 9 1 (List.map z0j a0.f_out)] (z16 r) (z17 r)) (ih_ast_writer_expr_1 : ∀ (a0 : z00) (a1 : z06) (r : z00), z10 n a0 a1 = some r → Cs Tryd.prog (GX X) 55 [xP 0 0, xP 3 0] [oB 68 [.box 1 0], oB 70 [.row 2, .pv (.bool a0.f_form), .pv (.bool a0.f_deep), .pv (.int .i64 a0.f_blocks), .pv (.int .i64 a0.f_parens)], oR false 9 1 (List.map z0j a0.f_out), oB 102 (bs (z0a a1))] (z1g r) (z1h a1 r)) (ih_ast_writer_deeper_ast_writer_kid_1 : ∀ (a0 : z00) (a1011 : z06) (r : z00), z09 n a0 a1011 = some r → Cs Tryd.prog (GX X) 54 [xP 0 0, .fn (.func 74) [] [.box 2 0, .box 3 0]] [oB 70 [.row 1, .pv (.bool a0.f_form), .pv (.bool a0.f_deep), .pv (.int .i64 a0.f_blocks), .pv (.int .i64 a0.f_parens)], oR false 9 1 (List.map z0j a0.f_out), oB 68 [.box 0 0], oB 102 (bs (z0a a1011))] (z0h r) (z0i a1011 r)) (ih_ast_writer_kid_1 : ∀ (a0 : z00) (a1 : z06) (r : z00), z13 n a0 a1 = some r → Cs Tryd.prog (GX X) 74 [xP 0 0, xP 3 0] [oB 68 [.box 1 0], oB 70 [.row 2, .pv (.bool a0.f_form), .pv (.bool a0.f_deep), .pv (.int .i64 a0.f_blocks), .pv (.int .i64 a0.f_parens)], oR false 9 1 (List.map z0j a0.f_out), oB 102 (bs (z0a a1))] (z1j r) (z1k a1 r)) (a0 : z00) (a1011 : z06) (r : z00) (h : z09 (n + 1) a0 a1011 = some r) : Cs Tryd.prog (GX X) 54 [xP 0 0, .fn (.func 74) [] [.box 2 0, .box 3 0]] [oB 70 [.row 1, .pv (.bool a0.f_form), .pv (.bool a0.f_deep), .pv (.int .i64 a0.f_blocks), .pv (.int .i64 a0.f_parens)], oR false 9 1 (List.map z0j a0.f_out), oB 68 [.box 0 0], oB 102 (bs (z0a a1011))] (z0h r) (z0i a1011 r) := by
 refine fnT (cx := cx X) Tryd.f54 Tryd.call54 Tryd.func54 (by kernel_rfl) ?_
 rw [z09] at h
 refine adv (ok X) 3 [] pT (by kernel_rfl) ?_
 refine jn (ok X) 1 (fun (j1 : Bool) => ⟨34, 4, [(0, [xP 0 0]), (1, [.fn (.func 74) [] [.box 2 0, .box 3 0]])], [oB 70 [.row 1, .pv (.bool a0.f_form), .pv (.bool j1), .pv (.int .i64 a0.f_blocks), .pv (.int .i64 (IntKind.i64.wrap (a0.f_parens + 1)))], oR false 9 1 (List.map z0j a0.f_out), oB 68 [.box 0 0], oB 102 (bs (z0a a1011))]⟩) h (fun j1 h => ?_) (fun j1 h => ?_)
 ·rcases iteE h with ⟨k1, h⟩ | ⟨k1, h⟩
  ·obtain rfl := retE h
   exact fin (ok X) 1 (bT 6 []) (pR 6 k1 pT) (by kernel_rfl)
  ·obtain rfl := retE h
   exact fin (ok X) 1 (bF 6 []) (pR 6 k1 pT) (by kernel_rfl)
 ·obtain ⟨v1, k2, h⟩ := z0b h
  obtain rfl := retE h
  exact fin (ok X) 3 [.s (z1j v1) (z1k a1011 v1)] (pA (ih_ast_writer_kid_1 _ _ _ k2) pT) (by kernel_rfl)

theorem z7u {n : Nat} (ih_ast_writer_expr : ∀ (a0 : z00) (a1 : z06) (r : z00), z0p n a0 a1 = some r → Cs Tryd.prog (GX X) 39 [xP 0 0, .agg (bs (z0a a1))] [oB 70 [.row 1, .pv (.bool a0.f_form), .pv (.bool a0.f_deep), .pv (.int .i64 a0.f_blocks), .pv (.int .i64 a0.f_parens)], oR false 9 1 (List.map z0j a0.f_out)] (z0y r) (z0z r)) (ih_ast_writer_deeper_ast_writer_expr_1 : ∀ (a0 : z00) (a1011 : z06) (r : z00), z08 n a0 a1011 = some r → Cs Tryd.prog (GX X) 54 [xP 0 0, .fn (.func 55) [] [.box 2 0, .box 3 0]] [oB 70 [.row 1, .pv (.bool a0.f_form), .pv (.bool a0.f_deep), .pv (.int .i64 a0.f_blocks), .pv (.int .i64 a0.f_parens)], oR false 9 1 (List.map z0j a0.f_out), oB 68 [.box 0 0], oB 102 (bs (z0a a1011))] (z0f r) (z0g a1011 r)) (ih_ast_writer_kid : ∀ (a0 : z00) (a1 : z06) (a2 : Bool) (r : z00), z0r n a0 a1 a2 = some r → Cs Tryd.prog (GX X) 56 [xP 0 0, .agg (bs (z0a a1)), xB a2] [oB 70 [.row 1, .pv (.bool a0.f_form), .pv (.bool a0.f_deep), .pv (.int .i64 a0.f_blocks), .pv (.int .i64 a0.f_parens)], oR false 9 1 (List.map z0j a0.f_out)] (z16 r) (z17 r)) (ih_ast_writer_expr_1 : ∀ (a0 : z00) (a1 : z06) (r : z00), z10 n a0 a1 = some r → Cs Tryd.prog (GX X) 55 [xP 0 0, xP 3 0] [oB 68 [.box 1 0], oB 70 [.row 2, .pv (.bool a0.f_form), .pv (.bool a0.f_deep), .pv (.int .i64 a0.f_blocks), .pv (.int .i64 a0.f_parens)], oR false 9 1 (List.map z0j a0.f_out), oB 102 (bs (z0a a1))] (z1g r) (z1h a1 r)) (ih_ast_writer_deeper_ast_writer_kid_1 : ∀ (a0 : z00) (a1011 : z06) (r : z00), z09 n a0 a1011 = some r → Cs Tryd.prog (GX X) 54 [xP 0 0, .fn (.func 74) [] [.box 2 0, .box 3 0]] [oB 70 [.row 1, .pv (.bool a0.f_form), .pv (.bool a0.f_deep), .pv (.int .i64 a0.f_blocks), .pv (.int .i64 a0.f_parens)], oR false 9 1 (List.map z0j a0.f_out), oB 68 [.box 0 0], oB 102 (bs (z0a a1011))] (z0h r) (z0i a1011 r)) (ih_ast_writer_kid_1 : ∀ (a0 : z00) (a1 : z06) (r : z00), z13 n a0 a1 = some r → Cs Tryd.prog (GX X) 74 [xP 0 0, xP 3 0] [oB 68 [.box 1 0], oB 70 [.row 2, .pv (.bool a0.f_form), .pv (.bool a0.f_deep), .pv (.int .i64 a0.f_blocks), .pv (.int .i64 a0.f_parens)], oR false 9 1 (List.map z0j a0.f_out), oB 102 (bs (z0a a1))] (z1j r) (z1k a1 r)) (a0 : z00) (a1 : z06) (r : z00) (h : z13 (n + 1) a0 a1 = some r) : Cs Tryd.prog (GX X) 74 [xP 0 0, xP 3 0] [oB 68 [.box 1 0], oB 70 [.row 2, .pv (.bool a0.f_form), .pv (.bool a0.f_deep), .pv (.int .i64 a0.f_blocks), .pv (.int .i64 a0.f_parens)], oR false 9 1 (List.map z0j a0.f_out), oB 102 (bs (z0a a1))] (z1j r) (z1k a1 r) := by
 refine fnT (cx := cx X) Tryd.f74 Tryd.call74 Tryd.func74 (by kernel_rfl) ?_
 rw [z13] at h
 obtain ⟨v1, k1, h⟩ := z0b h
 obtain rfl := retE h
 exact fin (ok X) 1 [.s (z0y v1) (z0z v1)] (pA (ih_ast_writer_expr _ _ _ k1) pT) (by kernel_rfl)

theorem z55 : ∀ n : Nat, (∀ (a0 : z00) (a1 : z06) (r : z00), z0p n a0 a1 = some r → Cs Tryd.prog (GX X) 39 [xP 0 0, .agg (bs (z0a a1))] [oB 70 [.row 1, .pv (.bool a0.f_form), .pv (.bool a0.f_deep), .pv (.int .i64 a0.f_blocks), .pv (.int .i64 a0.f_parens)], oR false 9 1 (List.map z0j a0.f_out)] (z0y r) (z0z r)) ∧ (∀ (a0 : z00) (a1011 : z06) (r : z00), z08 n a0 a1011 = some r → Cs Tryd.prog (GX X) 54 [xP 0 0, .fn (.func 55) [] [.box 2 0, .box 3 0]] [oB 70 [.row 1, .pv (.bool a0.f_form), .pv (.bool a0.f_deep), .pv (.int .i64 a0.f_blocks), .pv (.int .i64 a0.f_parens)], oR false 9 1 (List.map z0j a0.f_out), oB 68 [.box 0 0], oB 102 (bs (z0a a1011))] (z0f r) (z0g a1011 r)) ∧ (∀ (a0 : z00) (a1 : z06) (a2 : Bool) (r : z00), z0r n a0 a1 a2 = some r → Cs Tryd.prog (GX X) 56 [xP 0 0, .agg (bs (z0a a1)), xB a2] [oB 70 [.row 1, .pv (.bool a0.f_form), .pv (.bool a0.f_deep), .pv (.int .i64 a0.f_blocks), .pv (.int .i64 a0.f_parens)], oR false 9 1 (List.map z0j a0.f_out)] (z16 r) (z17 r)) ∧ (∀ (a0 : z00) (a1 : z06) (r : z00), z10 n a0 a1 = some r → Cs Tryd.prog (GX X) 55 [xP 0 0, xP 3 0] [oB 68 [.box 1 0], oB 70 [.row 2, .pv (.bool a0.f_form), .pv (.bool a0.f_deep), .pv (.int .i64 a0.f_blocks), .pv (.int .i64 a0.f_parens)], oR false 9 1 (List.map z0j a0.f_out), oB 102 (bs (z0a a1))] (z1g r) (z1h a1 r)) ∧ (∀ (a0 : z00) (a1011 : z06) (r : z00), z09 n a0 a1011 = some r → Cs Tryd.prog (GX X) 54 [xP 0 0, .fn (.func 74) [] [.box 2 0, .box 3 0]] [oB 70 [.row 1, .pv (.bool a0.f_form), .pv (.bool a0.f_deep), .pv (.int .i64 a0.f_blocks), .pv (.int .i64 a0.f_parens)], oR false 9 1 (List.map z0j a0.f_out), oB 68 [.box 0 0], oB 102 (bs (z0a a1011))] (z0h r) (z0i a1011 r)) ∧ (∀ (a0 : z00) (a1 : z06) (r : z00), z13 n a0 a1 = some r → Cs Tryd.prog (GX X) 74 [xP 0 0, xP 3 0] [oB 68 [.box 1 0], oB 70 [.row 2, .pv (.bool a0.f_form), .pv (.bool a0.f_deep), .pv (.int .i64 a0.f_blocks), .pv (.int .i64 a0.f_parens)], oR false 9 1 (List.map z0j a0.f_out), oB 102 (bs (z0a a1))] (z1j r) (z1k a1 r))
 | 0 => ⟨(fun _ _ _ h => by rw [z0p] at h; cases h), (fun _ _ _ h => by rw [z08] at h; cases h), (fun _ _ _ _ h => by rw [z0r] at h; cases h), (fun _ _ _ h => by rw [z10] at h; cases h), (fun _ _ _ h => by rw [z09] at h; cases h), (fun _ _ _ h => by rw [z13] at h; cases h)⟩
 | n + 1 => by
  have ih := z55 n
  exact ⟨z8q ih.1 ih.2.1 ih.2.2.1 ih.2.2.2.1 ih.2.2.2.2.1 ih.2.2.2.2.2, z3k ih.1 ih.2.1 ih.2.2.1 ih.2.2.2.1 ih.2.2.2.2.1 ih.2.2.2.2.2, z94 ih.1 ih.2.1 ih.2.2.1 ih.2.2.2.1 ih.2.2.2.2.1 ih.2.2.2.2.2, z7d ih.1 ih.2.1 ih.2.2.1 ih.2.2.2.1 ih.2.2.2.2.1 ih.2.2.2.2.2, z3q ih.1 ih.2.1 ih.2.2.1 ih.2.2.2.1 ih.2.2.2.2.1 ih.2.2.2.2.2, z7u ih.1 ih.2.1 ih.2.2.1 ih.2.2.2.1 ih.2.2.2.2.1 ih.2.2.2.2.2⟩

theorem z2t {a0 : z00} {a1 : z06} {r : z00} (h : z2d a0 a1 = some r) : Cs Tryd.prog (GX X) 39 [xP 0 0, .agg (bs (z0a a1))] [oB 70 [.row 1, .pv (.bool a0.f_form), .pv (.bool a0.f_deep), .pv (.int .i64 a0.f_blocks), .pv (.int .i64 a0.f_parens)], oR false 9 1 (List.map z0j a0.f_out)] (z0y r) (z0z r) := by
 obtain ⟨n, hn⟩ := unfE h
 exact (z55 n).1 _ _ _ hn

theorem z4f {a0 : z00} {a1 : z2q} {r : z00} (h : z2e a0 a1 = some r) : Cs Tryd.prog (GX X) 40 [xP 0 0, .agg (bs (z8f a1))] [oB 70 [.row 1, .pv (.bool a0.f_form), .pv (.bool a0.f_deep), .pv (.int .i64 a0.f_blocks), .pv (.int .i64 a0.f_parens)], oR false 9 1 (List.map z0j a0.f_out)] (z3g r) (z3h r) := by
 refine fnT (cx := cx X) Tryd.f40 Tryd.call40 Tryd.func40 (by kernel_rfl) ?_
 unfold z2e at h
 obtain ⟨v1, k1, h⟩ := z0b h
 obtain ⟨v2, k2, h⟩ := z0b h
 refine adv (ok X) 8 [.s (z02 v1) (z03 v1), .s (z0y v2) (z0z v2)] (pA (z04 (X := X) k1) (pA (z2t (X := X) k2) pT)) (by kernel_rfl) ?_
 refine jn (ok X) 1 (fun (j1 : Bool) => ⟨36, 2, [(0, [xP 0 0]), (3, [xP 2 0]), (18, [xB j1])], [oB 70 [.row 1, .pv (.bool v2.f_form), .pv (.bool v2.f_deep), .pv (.int .i64 v2.f_blocks), .pv (.int .i64 v2.f_parens)], oR true 9 1 (List.map z0j v2.f_out), oB 105 (bs (z8f a1))]⟩) h (fun j1 h => ?_) (fun j1 h => ?_)
 ·rcases iteE h with ⟨k3, h⟩ | ⟨k3, h⟩
  ·obtain rfl := retE h
   exact fin (ok X) 1 (bT 4 []) (pR 4 k3 pT) (by kernel_rfl)
  ·obtain rfl := retE h
   exact fin (ok X) 1 (bF 4 []) (pR 4 k3 pT) (by kernel_rfl)
 ·rcases iteE h with ⟨k4, h⟩ | ⟨k4, h⟩
  ·obtain ⟨v3, k5, h⟩ := z0b h
   obtain ⟨v4, k6, h⟩ := z0b h
   obtain ⟨v5, k7, h⟩ := z0b h
   obtain rfl := retE h
   exact fin (ok X) 5 [.b true, .s (z11 v3) (z12 v3), .s (z0y v4) (z0z v4), .s (z02 v5) (z03 v5)] (pA k4 (pA (z14 (X := X) k5) (pA (z2t (X := X) k6) (pA (z04 (X := X) k7) pT)))) (by kernel_rfl)
  ·obtain ⟨v6, k8, h⟩ := z0b h
   obtain ⟨v7, k9, h⟩ := z0b h
   obtain ⟨v8, k10, h⟩ := z0b h
   obtain ⟨v9, k11, h⟩ := z0b h
   obtain rfl := retE h
   exact fin (ok X) 5 [.b false, .e [.str v6], .s (z02 v7) (z03 v7), .s (z0y v8) (z0z v8), .s (z02 v9) (z03 v9)] (pA k4 (pA (ixm z0j k8) (pA (z04 (X := X) k9) (pA (z2t (X := X) k10) (pA (z04 (X := X) k11) pT))))) (by kernel_rfl)

theorem z7v {n : Nat} (ih_ast_writer_stmts : ∀ (a0 : z00) (a1 : (List z05)) (r : z00), z0q n a0 a1 = some r → Cs Tryd.prog (GX X) 21 [xP 0 0, xL (List.map z0o a1)] [oB 70 [.row 1, .pv (.bool a0.f_form), .pv (.bool a0.f_deep), .pv (.int .i64 a0.f_blocks), .pv (.int .i64 a0.f_parens)], oR false 9 1 (List.map z0j a0.f_out)] (z1c r) (z1d r)) (ih_ast_writer_stmt : ∀ (a0 : z00) (a1 : z05) (r : z00), z0t n a0 a1 = some r → Cs Tryd.prog (GX X) 32 [xP 0 0, .agg (bs (z47 a1))] [oB 70 [.row 1, .pv (.bool a0.f_form), .pv (.bool a0.f_deep), .pv (.int .i64 a0.f_blocks), .pv (.int .i64 a0.f_parens)], oR false 9 1 (List.map z0j a0.f_out)] (z25 r) (z26 r)) (ih_ast_writer_block : ∀ (a0 : z00) (a1 : (List z05)) (r : z00), z0m n a0 a1 = some r → Cs Tryd.prog (GX X) 41 [xP 0 0, xL (List.map z0o a1)] [oB 70 [.row 1, .pv (.bool a0.f_form), .pv (.bool a0.f_deep), .pv (.int .i64 a0.f_blocks), .pv (.int .i64 a0.f_parens)], oR false 9 1 (List.map z0j a0.f_out)] (z1e r) (z1f r)) (ih_ast_writer_arms : ∀ (a0 : z00) (a1 : (List z19)) (r : z00), z0v n a0 a1 = some r → Cs Tryd.prog (GX X) 42 [xP 0 0, xL (List.map z1o a1)] [oB 70 [.row 1, .pv (.bool a0.f_form), .pv (.bool a0.f_deep), .pv (.int .i64 a0.f_blocks), .pv (.int .i64 a0.f_parens)], oR false 9 1 (List.map z0j a0.f_out)] (z1s r) (z1t r)) (a0 : z00) (a1 : (List z05)) (r : z00) (h : z0q (n + 1) a0 a1 = some r) : Cs Tryd.prog (GX X) 21 [xP 0 0, xL (List.map z0o a1)] [oB 70 [.row 1, .pv (.bool a0.f_form), .pv (.bool a0.f_deep), .pv (.int .i64 a0.f_blocks), .pv (.int .i64 a0.f_parens)], oR false 9 1 (List.map z0j a0.f_out)] (z1c r) (z1d r) := by
 refine fnT (cx := cx X) Tryd.f21 Tryd.call21 Tryd.func21 (by kernel_rfl) ?_
 rw [z0q] at h
 refine adv (ok X) 2 [.i (a1.length : Int)] (pA (lm z0o a1) pT) (by kernel_rfl) ?_
 refine lp (ok X) (z1q (z0q n) (z0t n) (z0m n) (z0v n) a1) (fun (x1 : (Int × Bool × Bool × Int × Int × (List ByteArray))) => ⟨16, 2, [(0, [xP 0 0]), (6, [xL (List.map z0o a1)]), (7, [xI (a1.length : Int)]), (8, [xI x1.1])], [oB 70 [.row 1, .pv (.bool x1.2.1), .pv (.bool x1.2.2.1), .pv (.int .i64 x1.2.2.2.1), .pv (.int .i64 x1.2.2.2.2.1)], oR true 9 1 (List.map z0j x1.2.2.2.2.2)]⟩) (fun (j1 : (Bool × Bool × Int × Int × (List ByteArray))) => ⟨16, 2, [], [oB 70 [.row 1, .pv (.bool j1.1), .pv (.bool j1.2.1), .pv (.int .i64 j1.2.2.1), .pv (.int .i64 j1.2.2.2.1)], oR true 9 1 (List.map z0j j1.2.2.2.2)]⟩) z7r (0, a0.f_form, a0.f_deep, a0.f_blocks, a0.f_parens, a0.f_out) (fun _ => ⟨_, _, _, _, rfl⟩) h (by kernel_rfl) (fun x1 o h => ?_) (fun r' h => ?_) (fun j1 h => ?_)
 ·unfold z1q at h
  rcases iteE h with ⟨k1, h⟩ | ⟨k1, h⟩
  ·obtain ⟨v1, k2, h⟩ := z0b h
   obtain ⟨v2, k3, h⟩ := z0b h
   obtain rfl := retE h
   exact fin (ok X) 12 [.b true, .e (z47 v1), .s (z25 v2) (z26 v2)] (pA k1 (pA (ixr z5v k2) (pA (ih_ast_writer_stmt _ _ _ k3) pT))) (by kernel_rfl)
  ·obtain rfl := retE h
   exact fin (ok X) 5 [.b false] (pA k1 pT) (by kernel_rfl)
 ·cases h
 ·obtain rfl := retE h
  exact fin (ok X) 0 [] pT (by kernel_rfl)

theorem z8r {n : Nat} (ih_ast_writer_stmts : ∀ (a0 : z00) (a1 : (List z05)) (r : z00), z0q n a0 a1 = some r → Cs Tryd.prog (GX X) 21 [xP 0 0, xL (List.map z0o a1)] [oB 70 [.row 1, .pv (.bool a0.f_form), .pv (.bool a0.f_deep), .pv (.int .i64 a0.f_blocks), .pv (.int .i64 a0.f_parens)], oR false 9 1 (List.map z0j a0.f_out)] (z1c r) (z1d r)) (ih_ast_writer_stmt : ∀ (a0 : z00) (a1 : z05) (r : z00), z0t n a0 a1 = some r → Cs Tryd.prog (GX X) 32 [xP 0 0, .agg (bs (z47 a1))] [oB 70 [.row 1, .pv (.bool a0.f_form), .pv (.bool a0.f_deep), .pv (.int .i64 a0.f_blocks), .pv (.int .i64 a0.f_parens)], oR false 9 1 (List.map z0j a0.f_out)] (z25 r) (z26 r)) (ih_ast_writer_block : ∀ (a0 : z00) (a1 : (List z05)) (r : z00), z0m n a0 a1 = some r → Cs Tryd.prog (GX X) 41 [xP 0 0, xL (List.map z0o a1)] [oB 70 [.row 1, .pv (.bool a0.f_form), .pv (.bool a0.f_deep), .pv (.int .i64 a0.f_blocks), .pv (.int .i64 a0.f_parens)], oR false 9 1 (List.map z0j a0.f_out)] (z1e r) (z1f r)) (ih_ast_writer_arms : ∀ (a0 : z00) (a1 : (List z19)) (r : z00), z0v n a0 a1 = some r → Cs Tryd.prog (GX X) 42 [xP 0 0, xL (List.map z1o a1)] [oB 70 [.row 1, .pv (.bool a0.f_form), .pv (.bool a0.f_deep), .pv (.int .i64 a0.f_blocks), .pv (.int .i64 a0.f_parens)], oR false 9 1 (List.map z0j a0.f_out)] (z1s r) (z1t r)) (a0 : z00) (a1 : z05) (r : z00) (h : z0t (n + 1) a0 a1 = some r) : Cs Tryd.prog (GX X) 32 [xP 0 0, .agg (bs (z47 a1))] [oB 70 [.row 1, .pv (.bool a0.f_form), .pv (.bool a0.f_deep), .pv (.int .i64 a0.f_blocks), .pv (.int .i64 a0.f_parens)], oR false 9 1 (List.map z0j a0.f_out)] (z25 r) (z26 r) := by
 refine fnT (cx := cx X) Tryd.f32 Tryd.call32 Tryd.func32 (by kernel_rfl) ?_
 rw [z0t] at h
 rcases iteE h with ⟨k1, h⟩ | ⟨k1, h⟩
 ·obtain ⟨v1, k2, h⟩ := z0b h
  obtain ⟨v2, k3, h⟩ := z0b h
  obtain ⟨v3, k4, h⟩ := z0b h
  obtain ⟨v4, k5, h⟩ := z0b h
  obtain rfl := retE h
  exact fin (ok X) 16 [.b true, .s (z0k v1) (z0l v1), .s (z02 v2) (z03 v2), .s (z0y v3) (z0z v3), .s (z02 v4) (z03 v4)] (pA k1 (pA (z0n (X := X) k2) (pA (z04 (X := X) k3) (pA (z2t (X := X) k4) (pA (z04 (X := X) k5) pT))))) (by kernel_rfl)
 ·refine adv (ok X) 10 [.b false] (pA k1 pT) (by kernel_rfl) ?_
  rcases iteE h with ⟨k6, h⟩ | ⟨k6, h⟩
  ·obtain ⟨v5, k7, h⟩ := z0b h
   obtain ⟨v6, k8, h⟩ := z0b h
   obtain ⟨v7, k9, h⟩ := z0b h
   refine adv (ok X) 9 [.b true, .s (z02 v5) (z03 v5), .s (z3g v6) (z3h v6), .s (z1e v7) (z1f v7), .i (a1.Else.length : Int)] (pA k6 (pA (z04 (X := X) k7) (pA (z4f (X := X) k8) (pA (ih_ast_writer_block _ _ _ k9) (pA (lm z0o a1.Else) pT))))) (by kernel_rfl) ?_
   rcases iteE h with ⟨k10, h⟩ | ⟨k10, h⟩
   ·obtain ⟨v8, k11, h⟩ := z0b h
    obtain ⟨v9, k12, h⟩ := z0b h
    obtain rfl := retE h
    exact fin (ok X) 5 [.b true, .s (z02 v8) (z03 v8), .s (z1e v9) (z1f v9)] (pA k10 (pA (z04 (X := X) k11) (pA (ih_ast_writer_block _ _ _ k12) pT))) (by kernel_rfl)
   ·obtain rfl := retE h
    exact fin (ok X) 3 [.b false] (pA k10 pT) (by kernel_rfl)
  ·refine adv (ok X) 3 [.b false] (pA k6 pT) (by kernel_rfl) ?_
   rcases iteE h with ⟨k13, h⟩ | ⟨k13, h⟩
   ·obtain ⟨v10, k14, h⟩ := z0b h
    obtain ⟨v11, k15, h⟩ := z0b h
    obtain ⟨v12, k16, h⟩ := z0b h
    obtain rfl := retE h
    exact fin (ok X) 7 [.b true, .s (z02 v10) (z03 v10), .s (z3g v11) (z3h v11), .s (z1e v12) (z1f v12)] (pA k13 (pA (z04 (X := X) k14) (pA (z4f (X := X) k15) (pA (ih_ast_writer_block _ _ _ k16) pT)))) (by kernel_rfl)
   ·refine adv (ok X) 3 [.b false] (pA k13 pT) (by kernel_rfl) ?_
    rcases iteE h with ⟨k17, h⟩ | ⟨k17, h⟩
    ·obtain ⟨v13, k18, h⟩ := z0b h
     obtain ⟨v14, k19, h⟩ := z0b h
     obtain ⟨v15, k20, h⟩ := z0b h
     obtain ⟨v16, k21, h⟩ := z0b h
     obtain ⟨v17, k22, h⟩ := z0b h
     obtain ⟨v18, k23, h⟩ := z0b h
     obtain ⟨v19, k24, h⟩ := z0b h
     obtain rfl := retE h
     exact fin (ok X) 15 [.b true, .s (z02 v13) (z03 v13), .s (z0k v14) (z0l v14), .s (z02 v15) (z03 v15), .s (z0k v16) (z0l v16), .s (z02 v17) (z03 v17), .s (z0y v18) (z0z v18), .s (z02 v19) (z03 v19)] (pA k17 (pA (z04 (X := X) k18) (pA (z0n (X := X) k19) (pA (z04 (X := X) k20) (pA (z0n (X := X) k21) (pA (z04 (X := X) k22) (pA (z2t (X := X) k23) (pA (z04 (X := X) k24) pT)))))))) (by kernel_rfl)
    ·refine adv (ok X) 3 [.b false] (pA k17 pT) (by kernel_rfl) ?_
     rcases iteE h with ⟨k25, h⟩ | ⟨k25, h⟩
     ·obtain ⟨v20, k26, h⟩ := z0b h
      obtain ⟨v21, k27, h⟩ := z0b h
      obtain ⟨v22, k28, h⟩ := z0b h
      obtain rfl := retE h
      exact fin (ok X) 7 [.b true, .s (z02 v20) (z03 v20), .s (z0k v21) (z0l v21), .s (z1s v22) (z1t v22)] (pA k25 (pA (z04 (X := X) k26) (pA (z0n (X := X) k27) (pA (ih_ast_writer_arms _ _ _ k28) pT)))) (by kernel_rfl)
     ·refine adv (ok X) 3 [.b false] (pA k25 pT) (by kernel_rfl) ?_
      rcases iteE h with ⟨k29, h⟩ | ⟨k29, h⟩
      ·obtain ⟨v23, k30, h⟩ := z0b h
       obtain ⟨v24, k31, h⟩ := z0b h
       obtain ⟨v25, k32, h⟩ := z0b h
       obtain rfl := retE h
       exact fin (ok X) 7 [.b true, .s (z02 v23) (z03 v23), .s (z3g v24) (z3h v24), .s (z02 v25) (z03 v25)] (pA k29 (pA (z04 (X := X) k30) (pA (z4f (X := X) k31) (pA (z04 (X := X) k32) pT)))) (by kernel_rfl)
      ·refine adv (ok X) 3 [.b false] (pA k29 pT) (by kernel_rfl) ?_
       rcases iteE h with ⟨k33, h⟩ | ⟨k33, h⟩
       ·obtain ⟨v26, k34, h⟩ := z0b h
        obtain ⟨v27, k35, h⟩ := z0b h
        obtain ⟨v28, k36, h⟩ := z0b h
        obtain rfl := retE h
        exact fin (ok X) 7 [.b true, .s (z02 v26) (z03 v26), .s (z0k v27) (z0l v27), .s (z02 v28) (z03 v28)] (pA k33 (pA (z04 (X := X) k34) (pA (z0n (X := X) k35) (pA (z04 (X := X) k36) pT)))) (by kernel_rfl)
       ·obtain ⟨v29, k37, h⟩ := z0b h
        obtain rfl := retE h
        exact fin (ok X) 3 [.b false, .s (z11 v29) (z12 v29)] (pA k33 (pA (z14 (X := X) k37) pT)) (by kernel_rfl)

theorem z7w {n : Nat} (ih_ast_writer_stmts : ∀ (a0 : z00) (a1 : (List z05)) (r : z00), z0q n a0 a1 = some r → Cs Tryd.prog (GX X) 21 [xP 0 0, xL (List.map z0o a1)] [oB 70 [.row 1, .pv (.bool a0.f_form), .pv (.bool a0.f_deep), .pv (.int .i64 a0.f_blocks), .pv (.int .i64 a0.f_parens)], oR false 9 1 (List.map z0j a0.f_out)] (z1c r) (z1d r)) (ih_ast_writer_stmt : ∀ (a0 : z00) (a1 : z05) (r : z00), z0t n a0 a1 = some r → Cs Tryd.prog (GX X) 32 [xP 0 0, .agg (bs (z47 a1))] [oB 70 [.row 1, .pv (.bool a0.f_form), .pv (.bool a0.f_deep), .pv (.int .i64 a0.f_blocks), .pv (.int .i64 a0.f_parens)], oR false 9 1 (List.map z0j a0.f_out)] (z25 r) (z26 r)) (ih_ast_writer_block : ∀ (a0 : z00) (a1 : (List z05)) (r : z00), z0m n a0 a1 = some r → Cs Tryd.prog (GX X) 41 [xP 0 0, xL (List.map z0o a1)] [oB 70 [.row 1, .pv (.bool a0.f_form), .pv (.bool a0.f_deep), .pv (.int .i64 a0.f_blocks), .pv (.int .i64 a0.f_parens)], oR false 9 1 (List.map z0j a0.f_out)] (z1e r) (z1f r)) (ih_ast_writer_arms : ∀ (a0 : z00) (a1 : (List z19)) (r : z00), z0v n a0 a1 = some r → Cs Tryd.prog (GX X) 42 [xP 0 0, xL (List.map z1o a1)] [oB 70 [.row 1, .pv (.bool a0.f_form), .pv (.bool a0.f_deep), .pv (.int .i64 a0.f_blocks), .pv (.int .i64 a0.f_parens)], oR false 9 1 (List.map z0j a0.f_out)] (z1s r) (z1t r)) (a0 : z00) (a1 : (List z05)) (r : z00) (h : z0m (n + 1) a0 a1 = some r) : Cs Tryd.prog (GX X) 41 [xP 0 0, xL (List.map z0o a1)] [oB 70 [.row 1, .pv (.bool a0.f_form), .pv (.bool a0.f_deep), .pv (.int .i64 a0.f_blocks), .pv (.int .i64 a0.f_parens)], oR false 9 1 (List.map z0j a0.f_out)] (z1e r) (z1f r) := by
 refine fnT (cx := cx X) Tryd.f41 Tryd.call41 Tryd.func41 (by kernel_rfl) ?_
 rw [z0m] at h
 obtain ⟨v1, k1, h⟩ := z0b h
 refine adv (ok X) 5 [.s (z02 v1) (z03 v1)] (pA (z04 (X := X) k1) pT) (by kernel_rfl) ?_
 refine jn (ok X) 1 (fun (j1 : Bool) => ⟨41, 2, [(0, [xP 0 0]), (1, [xL (List.map z0o a1)])], [oB 70 [.row 1, .pv (.bool v1.f_form), .pv (.bool j1), .pv (.int .i64 (IntKind.i64.wrap (v1.f_blocks + 1))), .pv (.int .i64 v1.f_parens)], oR true 9 1 (List.map z0j v1.f_out)]⟩) h (fun j1 h => ?_) (fun j1 h => ?_)
 ·rcases iteE h with ⟨k2, h⟩ | ⟨k2, h⟩
  ·obtain rfl := retE h
   exact fin (ok X) 1 (bT 6 []) (pR 6 k2 pT) (by kernel_rfl)
  ·obtain rfl := retE h
   exact fin (ok X) 1 (bF 6 []) (pR 6 k2 pT) (by kernel_rfl)
 ·obtain ⟨v2, k3, h⟩ := z0b h
  obtain ⟨v3, k4, h⟩ := z0b h
  obtain rfl := retE h
  exact fin (ok X) 5 [.s (z1c v2) (z1d v2), .s (z02 v3) (z03 v3)] (pA (ih_ast_writer_stmts _ _ _ k3) (pA (z04 (X := X) k4) pT)) (by kernel_rfl)

theorem z8s {n : Nat} (ih_ast_writer_stmts : ∀ (a0 : z00) (a1 : (List z05)) (r : z00), z0q n a0 a1 = some r → Cs Tryd.prog (GX X) 21 [xP 0 0, xL (List.map z0o a1)] [oB 70 [.row 1, .pv (.bool a0.f_form), .pv (.bool a0.f_deep), .pv (.int .i64 a0.f_blocks), .pv (.int .i64 a0.f_parens)], oR false 9 1 (List.map z0j a0.f_out)] (z1c r) (z1d r)) (ih_ast_writer_stmt : ∀ (a0 : z00) (a1 : z05) (r : z00), z0t n a0 a1 = some r → Cs Tryd.prog (GX X) 32 [xP 0 0, .agg (bs (z47 a1))] [oB 70 [.row 1, .pv (.bool a0.f_form), .pv (.bool a0.f_deep), .pv (.int .i64 a0.f_blocks), .pv (.int .i64 a0.f_parens)], oR false 9 1 (List.map z0j a0.f_out)] (z25 r) (z26 r)) (ih_ast_writer_block : ∀ (a0 : z00) (a1 : (List z05)) (r : z00), z0m n a0 a1 = some r → Cs Tryd.prog (GX X) 41 [xP 0 0, xL (List.map z0o a1)] [oB 70 [.row 1, .pv (.bool a0.f_form), .pv (.bool a0.f_deep), .pv (.int .i64 a0.f_blocks), .pv (.int .i64 a0.f_parens)], oR false 9 1 (List.map z0j a0.f_out)] (z1e r) (z1f r)) (ih_ast_writer_arms : ∀ (a0 : z00) (a1 : (List z19)) (r : z00), z0v n a0 a1 = some r → Cs Tryd.prog (GX X) 42 [xP 0 0, xL (List.map z1o a1)] [oB 70 [.row 1, .pv (.bool a0.f_form), .pv (.bool a0.f_deep), .pv (.int .i64 a0.f_blocks), .pv (.int .i64 a0.f_parens)], oR false 9 1 (List.map z0j a0.f_out)] (z1s r) (z1t r)) (a0 : z00) (a1 : (List z19)) (r : z00) (h : z0v (n + 1) a0 a1 = some r) : Cs Tryd.prog (GX X) 42 [xP 0 0, xL (List.map z1o a1)] [oB 70 [.row 1, .pv (.bool a0.f_form), .pv (.bool a0.f_deep), .pv (.int .i64 a0.f_blocks), .pv (.int .i64 a0.f_parens)], oR false 9 1 (List.map z0j a0.f_out)] (z1s r) (z1t r) := by
 refine fnT (cx := cx X) Tryd.f42 Tryd.call42 Tryd.func42 (by kernel_rfl) ?_
 rw [z0v] at h
 obtain ⟨v1, k1, h⟩ := z0b h
 obtain ⟨v2, k2, h⟩ := z0b h
 refine adv (ok X) 7 [.i (a1.length : Int), .s (z11 v1) (z12 v1), .s (z02 v2) (z03 v2), .i (a1.length : Int)] (pA (lm z1o a1) (pA (z14 (X := X) k1) (pA (z04 (X := X) k2) (pA (lm z1o a1) pT)))) (by kernel_rfl) ?_
 refine lp (ok X) (z1y (z0q n) (z0t n) (z0m n) (z0v n) a1) (fun (x1 : (Int × Bool × Bool × Int × Int × (List ByteArray))) => ⟨42, 2, [(0, [xP 0 0]), (14, [xL (List.map z1o a1)]), (15, [xI (a1.length : Int)]), (16, [xI x1.1])], [oB 70 [.row 1, .pv (.bool x1.2.1), .pv (.bool x1.2.2.1), .pv (.int .i64 x1.2.2.2.1), .pv (.int .i64 x1.2.2.2.2.1)], oR true 9 1 (List.map z0j x1.2.2.2.2.2)]⟩) (fun (j1 : (Bool × Bool × Int × Int × (List ByteArray))) => ⟨42, 2, [(0, [xP 0 0])], [oB 70 [.row 1, .pv (.bool j1.1), .pv (.bool j1.2.1), .pv (.int .i64 j1.2.2.1), .pv (.int .i64 j1.2.2.2.1)], oR true 9 1 (List.map z0j j1.2.2.2.2)]⟩) z8l (0, v2.f_form, v2.f_deep, v2.f_blocks, v2.f_parens, v2.f_out) (fun _ => ⟨_, _, _, _, rfl⟩) h (by kernel_rfl) (fun x1 o h => ?_) (fun r' h => ?_) (fun j1 h => ?_)
 ·unfold z1y at h
  rcases iteE h with ⟨k3, h⟩ | ⟨k3, h⟩
  ·obtain ⟨v3, k4, h⟩ := z0b h
   obtain ⟨v4, k5, h⟩ := z0b h
   obtain ⟨v5, k6, h⟩ := z0b h
   obtain ⟨v6, k7, h⟩ := z0b h
   obtain ⟨v7, k8, h⟩ := z0b h
   obtain ⟨v8, k9, h⟩ := z0b h
   obtain rfl := retE h
   exact fin (ok X) 20 [.b true, .e (zi9 v3), .s (z0k v4) (z0l v4), .s (z02 v5) (z03 v5), .s (z0k v6) (z0l v6), .s (z02 v7) (z03 v7), .s (z1e v8) (z1f v8)] (pA k3 (pA (ixr z6d k4) (pA (z0n (X := X) k5) (pA (z04 (X := X) k6) (pA (z0n (X := X) k7) (pA (z04 (X := X) k8) (pA (ih_ast_writer_block _ _ _ k9) pT))))))) (by kernel_rfl)
  ·obtain rfl := retE h
   exact fin (ok X) 5 [.b false] (pA k3 pT) (by kernel_rfl)
 ·cases h
 ·obtain ⟨v9, k10, h⟩ := z0b h
  obtain rfl := retE h
  exact fin (ok X) 1 [.s (z02 v9) (z03 v9)] (pA (z04 (X := X) k10) pT) (by kernel_rfl)

theorem z4p : ∀ n : Nat, (∀ (a0 : z00) (a1 : (List z05)) (r : z00), z0q n a0 a1 = some r → Cs Tryd.prog (GX X) 21 [xP 0 0, xL (List.map z0o a1)] [oB 70 [.row 1, .pv (.bool a0.f_form), .pv (.bool a0.f_deep), .pv (.int .i64 a0.f_blocks), .pv (.int .i64 a0.f_parens)], oR false 9 1 (List.map z0j a0.f_out)] (z1c r) (z1d r)) ∧ (∀ (a0 : z00) (a1 : z05) (r : z00), z0t n a0 a1 = some r → Cs Tryd.prog (GX X) 32 [xP 0 0, .agg (bs (z47 a1))] [oB 70 [.row 1, .pv (.bool a0.f_form), .pv (.bool a0.f_deep), .pv (.int .i64 a0.f_blocks), .pv (.int .i64 a0.f_parens)], oR false 9 1 (List.map z0j a0.f_out)] (z25 r) (z26 r)) ∧ (∀ (a0 : z00) (a1 : (List z05)) (r : z00), z0m n a0 a1 = some r → Cs Tryd.prog (GX X) 41 [xP 0 0, xL (List.map z0o a1)] [oB 70 [.row 1, .pv (.bool a0.f_form), .pv (.bool a0.f_deep), .pv (.int .i64 a0.f_blocks), .pv (.int .i64 a0.f_parens)], oR false 9 1 (List.map z0j a0.f_out)] (z1e r) (z1f r)) ∧ (∀ (a0 : z00) (a1 : (List z19)) (r : z00), z0v n a0 a1 = some r → Cs Tryd.prog (GX X) 42 [xP 0 0, xL (List.map z1o a1)] [oB 70 [.row 1, .pv (.bool a0.f_form), .pv (.bool a0.f_deep), .pv (.int .i64 a0.f_blocks), .pv (.int .i64 a0.f_parens)], oR false 9 1 (List.map z0j a0.f_out)] (z1s r) (z1t r))
 | 0 => ⟨(fun _ _ _ h => by rw [z0q] at h; cases h), (fun _ _ _ h => by rw [z0t] at h; cases h), (fun _ _ _ h => by rw [z0m] at h; cases h), (fun _ _ _ h => by rw [z0v] at h; cases h)⟩
 | n + 1 => by
  have ih := z4p n
  exact ⟨z7v ih.1 ih.2.1 ih.2.2.1 ih.2.2.2, z8r ih.1 ih.2.1 ih.2.2.1 ih.2.2.2, z7w ih.1 ih.2.1 ih.2.2.1 ih.2.2.2, z8s ih.1 ih.2.1 ih.2.2.1 ih.2.2.2⟩

theorem z7x {a0 : z00} {a1 : (List z05)} {r : z00} (h : z3s a0 a1 = some r) : Cs Tryd.prog (GX X) 21 [xP 0 0, xL (List.map z0o a1)] [oB 70 [.row 1, .pv (.bool a0.f_form), .pv (.bool a0.f_deep), .pv (.int .i64 a0.f_blocks), .pv (.int .i64 a0.f_parens)], oR false 9 1 (List.map z0j a0.f_out)] (z1c r) (z1d r) := by
 obtain ⟨n, hn⟩ := unfE h
 exact (z4p n).1 _ _ _ hn

theorem z8t {a0 : z00} {a1 : z2b} {r : z00} (h : z2s a0 a1 = some r) : Cs Tryd.prog (GX X) 12 [xP 0 0, .agg (bs (z2j a1))] [oB 70 [.row 1, .pv (.bool a0.f_form), .pv (.bool a0.f_deep), .pv (.int .i64 a0.f_blocks), .pv (.int .i64 a0.f_parens)], oR false 9 1 (List.map z0j a0.f_out)] (z4d r) (z4e r) := by
 refine fnT (cx := cx X) Tryd.f12 Tryd.call12 Tryd.func12 (by kernel_rfl) ?_
 unfold z2s at h
 obtain ⟨v1, k1, h⟩ := z0b h
 obtain ⟨v2, k2, h⟩ := z0b h
 obtain ⟨v3, k3, h⟩ := z0b h
 refine adv (ok X) 11 [.s (z02 v1) (z03 v1), .s (z0k v2) (z0l v2), .s (z02 v3) (z03 v3), .i (a1.Vars.length : Int)] (pA (z04 (X := X) k1) (pA (z0n (X := X) k2) (pA (z04 (X := X) k3) (pA (lm z0j a1.Vars) pT)))) (by kernel_rfl) ?_
 refine lp (ok X) (z2a a1) (fun (x1 : (Int × Bool × Bool × Int × Int × (List ByteArray))) => ⟨40, 2, [(0, [xP 0 0]), (3, [xP 2 0]), (17, [xL (List.map z0j a1.Vars)]), (18, [xI (a1.Vars.length : Int)]), (19, [xI x1.1])], [oB 70 [.row 1, .pv (.bool x1.2.1), .pv (.bool x1.2.2.1), .pv (.int .i64 x1.2.2.2.1), .pv (.int .i64 x1.2.2.2.2.1)], oR true 9 1 (List.map z0j x1.2.2.2.2.2), oB 79 (bs (z2j a1))]⟩) (fun (j1 : (Bool × Bool × Int × Int × (List ByteArray))) => ⟨40, 2, [(0, [xP 0 0]), (3, [xP 2 0])], [oB 70 [.row 1, .pv (.bool j1.1), .pv (.bool j1.2.1), .pv (.int .i64 j1.2.2.1), .pv (.int .i64 j1.2.2.2.1)], oR true 9 1 (List.map z0j j1.2.2.2.2), oB 79 (bs (z2j a1))]⟩) z8m (0, v3.f_form, v3.f_deep, v3.f_blocks, v3.f_parens, v3.f_out) (fun _ => ⟨_, _, _, _, rfl⟩) h (by kernel_rfl) (fun x1 o h => ?_) (fun r' h => ?_) (fun j1 h => ?_)
 ·unfold z2a at h
  rcases iteE h with ⟨k4, h⟩ | ⟨k4, h⟩
  ·obtain ⟨v4, k5, h⟩ := z0b h
   obtain ⟨v5, k6, h⟩ := z0b h
   obtain ⟨v6, k7, h⟩ := z0b h
   obtain ⟨v7, k8, h⟩ := z0b h
   obtain rfl := retE h
   exact fin (ok X) 16 [.b true, .e [.str v4], .s (z02 v5) (z03 v5), .s (z0k v6) (z0l v6), .s (z02 v7) (z03 v7)] (pA k4 (pA (ixm z0j k5) (pA (z04 (X := X) k6) (pA (z0n (X := X) k7) (pA (z04 (X := X) k8) pT))))) (by kernel_rfl)
  ·obtain rfl := retE h
   exact fin (ok X) 5 [.b false] (pA k4 pT) (by kernel_rfl)
 ·cases h
 ·obtain ⟨v8, k9, h⟩ := z0b h
  obtain ⟨v9, k10, h⟩ := z0b h
  obtain rfl := retE h
  exact fin (ok X) 3 [.s (z1c v8) (z1d v8), .s (z02 v9) (z03 v9)] (pA (z7x (X := X) k9) (pA (z04 (X := X) k10) pT)) (by kernel_rfl)

theorem za6 {a0 : z1a} {r : ((List ByteArray) × Int)} (h : z5n a0 = some r) : Cv Tryd.prog (GX X) 5 [.agg (bs (z2v a0))] (z5z r) := by
 refine Cs.toV (?_ : Cs Tryd.prog (GX X) 5 [.agg (bs (z2v a0))] [] (z5z r) (za2 r)) (by kernel_rfl)
 refine fnT (cx := cx X) Tryd.f5 Tryd.call5 Tryd.func5 (by kernel_rfl) ?_
 unfold z5n at h
 refine adv (ok X) 7 [.i (a0.Chans.length : Int)] (pA (lm z1r a0.Chans) pT) (by kernel_rfl) ?_
 refine lp (ok X) (z32 a0) (fun (x1 : (Int × Bool × Bool × Int × Int × (List ByteArray))) => ⟨67, 0, [(1, [xP 0 0]), (4, [xP 1 0]), (14, [xL (List.map z1r a0.Chans)]), (15, [xI (a0.Chans.length : Int)]), (16, [xI x1.1])], [oB 47 (bs (z2v a0)), oB 70 [.row 2, .pv (.bool x1.2.1), .pv (.bool x1.2.2.1), .pv (.int .i64 x1.2.2.2.1), .pv (.int .i64 x1.2.2.2.2.1)], oR true 9 1 (List.map z0j x1.2.2.2.2.2)]⟩) (fun (j1 : (Bool × Bool × Int × Int × (List ByteArray))) => ⟨67, 0, [(1, [xP 0 0]), (4, [xP 1 0])], [oB 47 (bs (z2v a0)), oB 70 [.row 2, .pv (.bool j1.1), .pv (.bool j1.2.1), .pv (.int .i64 j1.2.2.1), .pv (.int .i64 j1.2.2.2.1)], oR true 9 1 (List.map z0j j1.2.2.2.2)]⟩) z7c (0, false, false, 0, 0, []) (fun _ => ⟨_, _, _, _, rfl⟩) h (by kernel_rfl) (fun x1 o h => ?_) (fun r' h => ?_) (fun j1 h => ?_)
 ·unfold z32 at h
  rcases iteE h with ⟨k1, h⟩ | ⟨k1, h⟩
  ·obtain ⟨v1, k2, h⟩ := z0b h
   obtain ⟨v2, k3, h⟩ := z0b h
   obtain rfl := retE h
   exact fin (ok X) 12 [.b true, .e (z1r v1), .s (z3i v2) (z3j v2)] (pA k1 (pA (ixm z1r k2) (pA (z6w (X := X) k3) pT))) (by kernel_rfl)
  ·obtain rfl := retE h
   exact fin (ok X) 5 [.b false] (pA k1 pT) (by kernel_rfl)
 ·cases h
 ·refine adv (ok X) 3 [.i (a0.Rules.length : Int)] (pA (lm z28 a0.Rules) pT) (by kernel_rfl) ?_
  refine lp (ok X) (z33 a0) (fun (x2 : (Int × Bool × Bool × Int × Int × (List ByteArray))) => ⟨67, 0, [(1, [xP 0 0]), (4, [xP 1 0]), (25, [xL (List.map z28 a0.Rules)]), (26, [xI (a0.Rules.length : Int)]), (27, [xI x2.1])], [oB 47 (bs (z2v a0)), oB 70 [.row 2, .pv (.bool x2.2.1), .pv (.bool x2.2.2.1), .pv (.int .i64 x2.2.2.2.1), .pv (.int .i64 x2.2.2.2.2.1)], oR true 9 1 (List.map z0j x2.2.2.2.2.2)]⟩) (fun (j2 : (Bool × Bool × Int × Int × (List ByteArray))) => ⟨67, 0, [(1, [xP 0 0]), (4, [xP 1 0])], [oB 47 (bs (z2v a0)), oB 70 [.row 2, .pv (.bool j2.1), .pv (.bool j2.2.1), .pv (.int .i64 j2.2.2.1), .pv (.int .i64 j2.2.2.2.1)], oR true 9 1 (List.map z0j j2.2.2.2.2)]⟩) z7c (0, j1.1, j1.2.1, j1.2.2.1, j1.2.2.2.1, j1.2.2.2.2) (fun _ => ⟨_, _, _, _, rfl⟩) h (by kernel_rfl) (fun x2 o h => ?_) (fun r' h => ?_) (fun j2 h => ?_)
  ·unfold z33 at h
   rcases iteE h with ⟨k4, h⟩ | ⟨k4, h⟩
   ·obtain ⟨v3, k5, h⟩ := z0b h
    obtain ⟨v4, k6, h⟩ := z0b h
    obtain rfl := retE h
    exact fin (ok X) 12 [.b true, .e (z28 v3), .s (z4b v4) (z4c v4)] (pA k4 (pA (ixm z28 k5) (pA (z8o (X := X) k6) pT))) (by kernel_rfl)
   ·obtain rfl := retE h
    exact fin (ok X) 5 [.b false] (pA k4 pT) (by kernel_rfl)
  ·cases h
  ·refine adv (ok X) 3 [.i (a0.Procs.length : Int)] (pA (lm z2j a0.Procs) pT) (by kernel_rfl) ?_
   refine lp (ok X) (z34 a0) (fun (x3 : (Int × Bool × Bool × Int × Int × (List ByteArray))) => ⟨67, 0, [(4, [xP 1 0]), (36, [xL (List.map z2j a0.Procs)]), (37, [xI (a0.Procs.length : Int)]), (38, [xI x3.1])], [none, oB 70 [.row 2, .pv (.bool x3.2.1), .pv (.bool x3.2.2.1), .pv (.int .i64 x3.2.2.2.1), .pv (.int .i64 x3.2.2.2.2.1)], oR true 9 1 (List.map z0j x3.2.2.2.2.2)]⟩) (fun (j3 : (Bool × Bool × Int × Int × (List ByteArray))) => ⟨67, 0, [(4, [xP 1 0])], [none, oB 70 [.row 2, .pv (.bool j3.1), .pv (.bool j3.2.1), .pv (.int .i64 j3.2.2.1), .pv (.int .i64 j3.2.2.2.1)], oR true 9 1 (List.map z0j j3.2.2.2.2)]⟩) z7c (0, j2.1, j2.2.1, j2.2.2.1, j2.2.2.2.1, j2.2.2.2.2) (fun _ => ⟨_, _, _, _, rfl⟩) h (by kernel_rfl) (fun x3 o h => ?_) (fun r' h => ?_) (fun j3 h => ?_)
   ·unfold z34 at h
    rcases iteE h with ⟨k7, h⟩ | ⟨k7, h⟩
    ·obtain ⟨v5, k8, h⟩ := z0b h
     obtain ⟨v6, k9, h⟩ := z0b h
     obtain rfl := retE h
     exact fin (ok X) 12 [.b true, .e (z2j v5), .s (z4d v6) (z4e v6)] (pA k7 (pA (ixm z2j k8) (pA (z8t (X := X) k9) pT))) (by kernel_rfl)
    ·obtain rfl := retE h
     exact fin (ok X) 5 [.b false] (pA k7 pT) (by kernel_rfl)
   ·cases h
   ·rcases iteE h with ⟨k10, h⟩ | ⟨k10, h⟩
    ·obtain rfl := retE h
     exact fin (ok X) 8 [.b true] (pA k10 pT) (by kernel_rfl)
    ·refine adv (ok X) 7 [.b false] (pA k10 pT) (by kernel_rfl) ?_
     rcases iteE h with ⟨k11, h⟩ | ⟨k11, h⟩
     ·obtain rfl := retE h
      exact fin (ok X) 4 [.b true] (pA k11 pT) (by kernel_rfl)
     ·refine adv (ok X) 3 [.b false, .i (j3.2.2.2.2.length : Int)] (pA k11 (pA (lm z0j j3.2.2.2.2) pT)) (by kernel_rfl) ?_
      rcases iteE h with ⟨k12, h⟩ | ⟨k12, h⟩
      ·obtain rfl := retE h
       exact fin (ok X) 4 [.b true] (pA k12 pT) (by kernel_rfl)
      ·obtain rfl := retE h
       exact fin (ok X) 6 [.b false] (pA k12 pT) (by kernel_rfl)

theorem zgj {a0 : z1a} {r : ByteArray × Int} (h : z9a a0 = some r) : Cv Tryd.prog (GX X) 9 [.agg (bs (z2v a0))] (zaw r) := by
 unfold z9a at h
 obtain ⟨q, k, h⟩ := z0b h
 split at h
 ·rename_i hle
  obtain rfl := retE h
  exact zig hle (za6 (X := X) k)
 ·cases h
end Go.Proofs.YtnfjgjomokloaaaDoor.Abs

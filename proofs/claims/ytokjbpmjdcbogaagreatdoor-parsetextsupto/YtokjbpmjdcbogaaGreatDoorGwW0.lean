/- Gw: the functions are these. -/
import Derived.Test.YtokjbpmjdcbogaaGreatDoorGwF
namespace Go.Proofs.YtokjbpmjdcbogaaGreatDoor.Abs
open Go Go.RowKit
set_option linter.unusedVariables false
set_option maxRecDepth 100000
set_option maxHeartbeats 4000000
variable {X : EV}
theorem z026 {a0 : Int} {r : ByteArray} (h : itoa a0 = some r) : Cv Tryz.prog (GX X) 109 [xI a0] (zy4 r) := zu3 h
theorem zwm {a0 : ByteArray} {r : Int × Int} (h : zj9 a0 = some r) : Cv Tryz.prog (GX X) 94 [xS a0] (zpy r) := zoi h
theorem zu4 {a0 : ByteArray} {a1 : Int} {r : Int} (h : zoe a0 a1 = some r) : Cv Tryz.prog (GX X) 114 [xS a0, .c (.pv (.int .u8 a1))] (zod r) := zry h
theorem zrz {n : Nat} (ih_l02_Expr : ∀ (a0 : z1m) (r : z04), z8x n a0 = some r → Cv Tryz.prog (GX X) 73 [.agg (bs (z9k a0))] (z7n r)) (a0 : z1m) (r : z04) (h : z8x (n + 1) a0 = some r) : Cv Tryz.prog (GX X) 73 [.agg (bs (z9k a0))] (z7n r) := by
 refine Cs.toV (?_ : Cs Tryz.prog (GX X) 73 [.agg (bs (z9k a0))] [] (z7n r) (zke r)) (by kernel_rfl)
 refine fnT (cx := cx X) Tryz.f73 Tryz.call73 Tryz.func73 (by kernel_rfl) ?_
 rw [z8x] at h
 refine adv (ok X) 7 [] pT (by kernel_rfl) ?_
 refine lp (ok X) (za9 (z8x n) a0) (fun (x1 : (Int × (List z04))) => ⟨29, 0, [(1, [xP 0 0]), (2, [xP 1 0]), (3, [xR 2]), (4, [xI x1.1])], [oB 43 (bs (z9k a0)), oB 103 [.pv (.int .i64 0), .pv (.int .i64 0), .pv (.str (ByteArray.mk #[])), .emp], oR true 103 4 (List.map z0w x1.2)]⟩) (fun (j1 : (List z04)) => ⟨29, 0, [(1, [xP 0 0]), (2, [xP 1 0]), (3, [xR 2])], [oB 43 (bs (z9k a0)), oB 103 [.pv (.int .i64 0), .pv (.int .i64 0), .pv (.str (ByteArray.mk #[])), .emp], oR true 103 4 (List.map z0w j1)]⟩) zrs (0, []) (fun _ => ⟨_, _, _, _, rfl⟩) h (by kernel_rfl) (fun x1 o h => ?_) (fun r' h => ?_) (fun j1 h => ?_)
 ·unfold za9 at h
  refine adv (ok X) 3 [.i (a0.Kids.length : Int)] (pA (lm z4n a0.Kids) pT) (by kernel_rfl) ?_
  rcases iteE h with ⟨k1, h⟩ | ⟨k1, h⟩
  ·obtain ⟨v1, k2, h⟩ := z06 h
   obtain ⟨v2, k3, h⟩ := z06 h
   obtain ⟨v3, k4, h⟩ := z06 h
   obtain rfl := retE h
   exact fin (ok X) 7 [.b true, .e (z9k v1), .c (z7n v2), .bl (List.map z0w [v2]), .l (List.map z0w v3)] (pA k1 (pA (ixr za0 k2) (pA (ih_l02_Expr _ _ k3) (pA (blc (e := z0w) (x := v2) (z42 _).symm (bl0 z0w)) (pA (apm (L := x1.2) (M := [v2]) zjs k4) pT))))) (by kernel_rfl)
  ·obtain rfl := retE h
   exact fin (ok X) 2 [.b false] (pA k1 pT) (by kernel_rfl)
 ·cases h
 ·obtain rfl := retE h
  exact fin (ok X) 3 [] pT (by kernel_rfl)

theorem zi0 : ∀ n : Nat, (∀ (a0 : z1m) (r : z04), z8x n a0 = some r → Cv Tryz.prog (GX X) 73 [.agg (bs (z9k a0))] (z7n r))
 | 0 => (fun _ _ h => by rw [z8x] at h; cases h)
 | n + 1 => by
  have ih := zi0 n
  exact zrz ih

theorem zhn {a0 : z1m} {r : z04} (h : zgl a0 = some r) : Cv Tryz.prog (GX X) 73 [.agg (bs (z9k a0))] (z7n r) := by
 obtain ⟨n, hn⟩ := unfE h
 exact (zi0 n) _ _ hn

theorem zs0 {a0 : z7t} {r : z31} (h : zgm a0 = some r) : Cv Tryz.prog (GX X) 74 [.agg (bs (zet a0))] (zhg r) := by
 refine Cs.toV (?_ : Cs Tryz.prog (GX X) 74 [.agg (bs (zet a0))] [] (zhg r) (zrt r)) (by kernel_rfl)
 refine fnT (cx := cx X) Tryz.f74 Tryz.call74 Tryz.func74 (by kernel_rfl) ?_
 unfold zgm at h
 obtain ⟨v1, k1, h⟩ := z06 h
 obtain ⟨v2, k2, h⟩ := z06 h
 obtain rfl := retE h
 exact fin (ok X) 5 [.o [0, 1, 2, 3, 4, 5, 6, 7, 8, 9], .c (z7n v1), .c (z7n v2)] (pA (zhn (X := X) k1) (pA (zhn (X := X) k2) pT)) (by kernel_rfl)

theorem zoj {n : Nat} (ih_l02_Stmts : ∀ (a0 : (List z0t)) (r : (List z03)), z6u n a0 = some r → Cv Tryz.prog (GX X) 43 [xL (List.map z41 a0)] (z6z r)) (a0 : (List z0t)) (r : (List z03)) (h : z6u (n + 1) a0 = some r) : Cv Tryz.prog (GX X) 43 [xL (List.map z41 a0)] (z6z r) := by
 refine Cs.toV (?_ : Cs Tryz.prog (GX X) 43 [xL (List.map z41 a0)] [] (z6z r) (zj6 r)) (by kernel_rfl)
 refine fnT (cx := cx X) Tryz.f43 Tryz.call43 Tryz.func43 (by kernel_rfl) ?_
 rw [z6u] at h
 refine adv (ok X) 7 [] pT (by kernel_rfl) ?_
 refine lp (ok X) (z9m (z6u n) a0) (fun (x1 : (Int × (List z03))) => ⟨74, 0, [(0, [xL (List.map z41 a0)]), (3, [xR 0]), (4, [xI x1.1])], [oR true 108 19 (List.map z0j x1.2)]⟩) (fun (j1 : (List z03)) => ⟨74, 0, [(3, [xR 0])], [oR true 108 19 (List.map z0j j1)]⟩) zj7 (0, []) (fun _ => ⟨_, _, _, _, rfl⟩) h (by kernel_rfl) (fun x1 o h => ?_) (fun r' h => ?_) (fun j1 h => ?_)
 ·unfold z9m at h
  refine adv (ok X) 3 [.i (a0.length : Int)] (pA (lm z41 a0) pT) (by kernel_rfl) ?_
  rcases iteE h with ⟨k1, h⟩ | ⟨k1, h⟩
  ·obtain ⟨v1, k2, h⟩ := z06 h
   obtain ⟨v2, k3, h⟩ := z06 h
   obtain ⟨v3, k4, h⟩ := z06 h
   obtain ⟨v4, k5, h⟩ := z06 h
   obtain ⟨v5, k6, h⟩ := z06 h
   refine adv (ok X) 11 [.b true, .e (zkd v1), .o [0, 1, 2, 3, 4, 5, 6, 7, 8, 9, 10, 11, 12, 13, 14, 15, 16, 17, 18, 19, 20], .c (z7n v2), .c (zhg v3), .c (z6z v4), .c (z6z v5)] (pA k1 (pA (ixr zd0 k2) (pA (zhn (X := X) k3) (pA (zs0 (X := X) k4) (pA (ih_l02_Stmts _ _ k5) (pA (ih_l02_Stmts _ _ k6) pT)))))) (by kernel_rfl) ?_
   refine lp (ok X) (z9l (z6u n) v1) (fun (x2 : (Int × (List z0m))) => ⟨74, 0, [(0, [xL (List.map z41 a0)]), (3, [xR 0]), (4, [xI x1.1]), (5, [xP 1 0]), (6, [xP 2 0]), (7, [xI x2.1])], [oR true 108 19 (List.map z0j x1.2), oB 50 (bs (zkd v1)), oB 108 [.pv (.int .i64 v1.Kind), .pv (.str v1.Name), .pv (.str v1.Tag), .pv (.int .i64 v2.Kind), .pv (.int .i64 v2.Num), .pv (.str v2.Name), .pv (.sl (List.map z0w v2.Kids)), .pv (.int .i64 v3.Op), .pv (.int .i64 v3.L.Kind), .pv (.int .i64 v3.L.Num), .pv (.str v3.L.Name), .pv (.sl (List.map z0w v3.L.Kids)), .pv (.int .i64 v3.R.Kind), .pv (.int .i64 v3.R.Num), .pv (.str v3.R.Name), .pv (.sl (List.map z0w v3.R.Kids)), .pv (.sl (List.map z0j v4)), .pv (.sl (List.map z0j v5)), .row 3], oR true 156 3 (List.map z1n x2.2)]⟩) (fun (j2 : (List z0m)) => ⟨74, 0, [(0, [xL (List.map z41 a0)]), (3, [xR 0]), (4, [xI x1.1]), (6, [xP 2 0])], [oR true 108 19 (List.map z0j x1.2), none, oB 108 [.pv (.int .i64 v1.Kind), .pv (.str v1.Name), .pv (.str v1.Tag), .pv (.int .i64 v2.Kind), .pv (.int .i64 v2.Num), .pv (.str v2.Name), .pv (.sl (List.map z0w v2.Kids)), .pv (.int .i64 v3.Op), .pv (.int .i64 v3.L.Kind), .pv (.int .i64 v3.L.Num), .pv (.str v3.L.Name), .pv (.sl (List.map z0w v3.L.Kids)), .pv (.int .i64 v3.R.Kind), .pv (.int .i64 v3.R.Num), .pv (.str v3.R.Name), .pv (.sl (List.map z0w v3.R.Kids)), .pv (.sl (List.map z0j v4)), .pv (.sl (List.map z0j v5)), .row 3], oR true 156 3 (List.map z1n j2)]⟩) zj7 (0, []) (fun _ => ⟨_, _, _, _, rfl⟩) h (by kernel_rfl) (fun x2 o h => ?_) (fun r' h => ?_) (fun j2 h => ?_)
   ·unfold z9l at h
    refine adv (ok X) 3 [.i (v1.Arms.length : Int)] (pA (lm za1 v1.Arms) pT) (by kernel_rfl) ?_
    rcases iteE h with ⟨k7, h⟩ | ⟨k7, h⟩
    ·obtain ⟨v6, k8, h⟩ := z06 h
     obtain ⟨v7, k9, h⟩ := z06 h
     obtain ⟨v8, k10, h⟩ := z06 h
     obtain rfl := retE h
     exact fin (ok X) 7 [.b true, .o [0, 1, 2, 3, 4, 5, 6, 7, 8, 9, 10, 11, 12, 13, 14, 15, 16, 17, 18, 19, 20, 21, 22, 23, 24, 25], .e (zj5 v6), .e (zj5 v6), .e (zj5 v6), .c (z6z v7), .bl (List.map z1n [(z0m.mk v6.Tag v6.Var v7)]), .l (List.map z1n v8)] (pA k7 (pA (ixr zao k8) (pA (ixr zao k8) (pA (ixr zao k8) (pA (ih_l02_Stmts _ _ k9) (pA (blc (e := z1n) (x := (z0m.mk v6.Tag v6.Var v7)) (z81 _).symm (bl0 z1n)) (pA (apm (L := x2.2) (M := [(z0m.mk v6.Tag v6.Var v7)]) zd1 k10) pT))))))) (by kernel_rfl)
    ·obtain rfl := retE h
     exact fin (ok X) 2 [.b false] (pA k7 pT) (by kernel_rfl)
   ·cases h
   ·obtain ⟨v9, k11, h⟩ := z06 h
    obtain rfl := retE h
    exact fin (ok X) 3 [.z (.fz 3), .bl (List.map z0j [(z03.mk v1.Kind v1.Name v1.Tag v2 v3 v4 v5 j2)]), .l (List.map z0j v9)] (pA (blc (e := z0j) (x := (z03.mk v1.Kind v1.Name v1.Tag v2 v3 v4 v5 j2)) (z3l _).symm (bl0 z0j)) (pA (apm (L := x1.2) (M := [(z03.mk v1.Kind v1.Name v1.Tag v2 v3 v4 v5 j2)]) zfb k11) pT)) (by kernel_rfl)
  ·obtain rfl := retE h
   exact fin (ok X) 2 [.b false] (pA k1 pT) (by kernel_rfl)
 ·cases h
 ·obtain rfl := retE h
  exact fin (ok X) 3 [] pT (by kernel_rfl)

theorem zgr : ∀ n : Nat, (∀ (a0 : (List z0t)) (r : (List z03)), z6u n a0 = some r → Cv Tryz.prog (GX X) 43 [xL (List.map z41 a0)] (z6z r))
 | 0 => (fun _ _ h => by rw [z6u] at h; cases h)
 | n + 1 => by
  have ih := zgr n
  exact zoj ih

theorem zok {a0 : (List z0t)} {r : (List z03)} (h : zj8 a0 = some r) : Cv Tryz.prog (GX X) 43 [xL (List.map z41 a0)] (z6z r) := by
 obtain ⟨n, hn⟩ := unfE h
 exact (zgr n) _ _ hn

theorem zmq {a0 : z43} {r : z16} (h : zcg a0 = some r) : Cv Tryz.prog (GX X) 13 [.agg (bs (z5n a0))] (zc4 r) := by
 refine Cs.toV (?_ : Cs Tryz.prog (GX X) 13 [.agg (bs (z5n a0))] [] (zc4 r) (zhz r)) (by kernel_rfl)
 refine fnT (cx := cx X) Tryz.f13 Tryz.call13 Tryz.func13 (by kernel_rfl) ?_
 unfold zcg at h
 refine adv (ok X) 7 [] pT (by kernel_rfl) ?_
 refine lp (ok X) (z8d a0) (fun (x1 : (Int × (List z23))) => ⟨124, 0, [(1, [xP 0 0]), (2, [xP 1 0]), (3, [xP 2 0]), (4, [xI x1.1])], [oB 34 (bs (z5n a0)), oB 26 [.emp, .emp, .emp], oB 26 [.row 3, .emp, .emp], oR true 73 6 (List.map z1u x1.2)]⟩) (fun (j1 : (List z23)) => ⟨124, 0, [(1, [xP 0 0]), (2, [xP 1 0]), (3, [xP 2 0])], [oB 34 (bs (z5n a0)), oB 26 [.emp, .emp, .emp], oB 26 [.row 3, .emp, .emp], oR true 73 6 (List.map z1u j1)]⟩) zc5 (0, []) (fun _ => ⟨_, _, _, _, rfl⟩) h (by kernel_rfl) (fun x1 o h => ?_) (fun r' h => ?_) (fun j1 h => ?_)
 ·unfold z8d at h
  refine adv (ok X) 3 [.i (a0.Chans.length : Int)] (pA (lm zbb a0.Chans) pT) (by kernel_rfl) ?_
  rcases iteE h with ⟨k1, h⟩ | ⟨k1, h⟩
  ·obtain ⟨v1, k2, h⟩ := z06 h
   obtain ⟨v2, k3, h⟩ := z06 h
   obtain ⟨v3, k4, h⟩ := z06 h
   obtain rfl := retE h
   exact fin (ok X) 9 [.b true, .e (zbb v1), .o [0, 1, 2, 3, 4, 5, 6, 7, 8, 9, 10, 11, 12, 13, 14, 15, 16, 17, 18, 19, 20], .cp (List.map z0v v2), .l (List.map z1u v3)] (pA k1 (pA (ixm zbb k2) (pA (apm zcp k3) (pA (apm (L := x1.2) (M := [(z23.mk v1.Name v1.Kind v1.Size v1.From v1.To v2)]) zfc k4) pT)))) (by kernel_rfl)
  ·obtain rfl := retE h
   exact fin (ok X) 2 [.b false] (pA k1 pT) (by kernel_rfl)
 ·cases h
 ·refine adv (ok X) 3 [] pT (by kernel_rfl) ?_
  refine lp (ok X) (z8f a0) (fun (x2 : (Int × (List z2g))) => ⟨124, 0, [(1, [xP 0 0]), (2, [xP 1 0]), (3, [xP 2 0]), (6, [xI x2.1])], [oB 34 (bs (z5n a0)), oB 26 [.emp, .emp, .emp], oB 26 [.row 3, .row 4, .emp], oR true 73 6 (List.map z1u j1), oR true 77 2 (List.map z28 x2.2)]⟩) (fun (j2 : (List z2g)) => ⟨124, 0, [(1, [xP 0 0]), (2, [xP 1 0]), (3, [xP 2 0])], [oB 34 (bs (z5n a0)), oB 26 [.emp, .emp, .emp], oB 26 [.row 3, .row 4, .emp], oR true 73 6 (List.map z1u j1), oR true 77 2 (List.map z28 j2)]⟩) zc5 (0, []) (fun _ => ⟨_, _, _, _, rfl⟩) h (by kernel_rfl) (fun x2 o h => ?_) (fun r' h => ?_) (fun j2 h => ?_)
  ·unfold z8f at h
   refine adv (ok X) 3 [.i (a0.Rules.length : Int)] (pA (lm z7m a0.Rules) pT) (by kernel_rfl) ?_
   rcases iteE h with ⟨k5, h⟩ | ⟨k5, h⟩
   ·obtain ⟨v4, k6, h⟩ := z06 h
    refine adv (ok X) 9 [.b true, .e (z7m v4)] (pA k5 (pA (ixm z7m k6) pT)) (by kernel_rfl) ?_
    refine lp (ok X) (z8e a0 x2) (fun (x3 : (Int × (List z3s))) => ⟨124, 0, [(1, [xP 0 0]), (2, [xP 1 0]), (3, [xP 2 0]), (6, [xI x2.1]), (7, [xP 5 0]), (8, [xI x3.1])], [oB 34 (bs (z5n a0)), oB 26 [.emp, .emp, .emp], oB 26 [.row 3, .row 4, .emp], oR true 73 6 (List.map z1u j1), oR true 77 2 (List.map z28 x2.2), oB 77 [.pv (.str v4.Chan), .row 6], oR true 111 3 (List.map z3o x3.2)]⟩) (fun (j3 : (List z3s)) => ⟨124, 0, [(1, [xP 0 0]), (2, [xP 1 0]), (3, [xP 2 0]), (6, [xI x2.1]), (7, [xP 5 0])], [oB 34 (bs (z5n a0)), oB 26 [.emp, .emp, .emp], oB 26 [.row 3, .row 4, .emp], oR true 73 6 (List.map z1u j1), oR true 77 2 (List.map z28 x2.2), oB 77 [.pv (.str v4.Chan), .row 6], oR true 111 3 (List.map z3o j3)]⟩) zc5 (0, []) (fun _ => ⟨_, _, _, _, rfl⟩) h (by kernel_rfl) (fun x3 o h => ?_) (fun r' h => ?_) (fun j3 h => ?_)
    ·unfold z8e at h
     obtain ⟨v5, k7, h⟩ := z06 h
     refine adv (ok X) 3 [.e (z7m v5), .i (v5.Moves.length : Int)] (pA (ixm z7m k7) (pA (lm zbc v5.Moves) pT)) (by kernel_rfl) ?_
     rcases iteE h with ⟨k8, h⟩ | ⟨k8, h⟩
     ·obtain ⟨v6, k9, h⟩ := z06 h
      obtain ⟨v7, k10, h⟩ := z06 h
      obtain ⟨v8, k11, h⟩ := z06 h
      obtain rfl := retE h
      exact fin (ok X) 9 [.b true, .e (z7m v6), .e (zbc v7), .l (List.map z3o v8)] (pA k8 (pA (ixm z7m k9) (pA (ixm zbc k10) (pA (apm (L := x3.2) (M := [(z3s.mk v7.From v7.Tag v7.To)]) zfd k11) pT)))) (by kernel_rfl)
     ·obtain rfl := retE h
      exact fin (ok X) 2 [.b false] (pA k8 pT) (by kernel_rfl)
    ·cases h
    ·obtain ⟨v9, k12, h⟩ := z06 h
     obtain rfl := retE h
     exact fin (ok X) 3 [.z (.fz 6), .l (List.map z28 v9)] (pA (apm (L := x2.2) (M := [(z2g.mk v4.Chan j3)]) zfe k12) pT) (by kernel_rfl)
   ·obtain rfl := retE h
    exact fin (ok X) 2 [.b false] (pA k5 pT) (by kernel_rfl)
  ·cases h
  ·refine adv (ok X) 3 [] pT (by kernel_rfl) ?_
   refine lp (ok X) (z8g a0) (fun (x4 : (Int × (List z2h))) => ⟨124, 0, [(1, [xP 0 0]), (2, [xP 1 0]), (3, [xP 2 0]), (10, [xI x4.1])], [oB 34 (bs (z5n a0)), oB 26 [.emp, .emp, .emp], oB 26 [.row 3, .row 4, .row 5], oR true 73 6 (List.map z1u j1), oR true 77 2 (List.map z28 j2), oR true 81 3 (List.map z0k x4.2)]⟩) (fun (j4 : (List z2h)) => ⟨124, 0, [(2, [xP 1 0]), (3, [xP 2 0])], [none, oB 26 [.emp, .emp, .emp], oB 26 [.row 3, .row 4, .row 5], oR true 73 6 (List.map z1u j1), oR true 77 2 (List.map z28 j2), oR true 81 3 (List.map z0k j4)]⟩) zc5 (0, []) (fun _ => ⟨_, _, _, _, rfl⟩) h (by kernel_rfl) (fun x4 o h => ?_) (fun r' h => ?_) (fun j4 h => ?_)
   ·unfold z8g at h
    refine adv (ok X) 3 [.i (a0.Procs.length : Int)] (pA (lm zbd a0.Procs) pT) (by kernel_rfl) ?_
    rcases iteE h with ⟨k13, h⟩ | ⟨k13, h⟩
    ·obtain ⟨v10, k14, h⟩ := z06 h
     obtain ⟨v11, k15, h⟩ := z06 h
     obtain ⟨v12, k16, h⟩ := z06 h
     obtain ⟨v13, k17, h⟩ := z06 h
     obtain rfl := retE h
     exact fin (ok X) 9 [.b true, .e (zbd v10), .o [0, 1, 2, 3, 4, 5, 6, 7, 8, 9, 10, 11, 12, 13, 14, 15], .cp (List.map z0v v11), .c (z6z v12), .l (List.map z0k v13)] (pA k13 (pA (ixm zbd k14) (pA (apm zcp k15) (pA (zok (X := X) k16) (pA (apm (L := x4.2) (M := [(z2h.mk v10.Name v11 v12)]) zff k17) pT))))) (by kernel_rfl)
    ·obtain rfl := retE h
     exact fin (ok X) 2 [.b false] (pA k13 pT) (by kernel_rfl)
   ·cases h
   ·obtain rfl := retE h
    exact fin (ok X) 3 [] pT (by kernel_rfl)

theorem z0c {a0 : z01} {a1 : (List ByteArray)} {r : z01} (h : z07 a0 a1 = some r) : Cs Tryz.prog (GX X) 85 [xP 0 0, xL (List.map z0v a1)] [oB 135 [.row 1, .pv (.bool a0.f_form), .pv (.bool a0.f_deep), .pv (.int .i64 a0.f_blocks), .pv (.int .i64 a0.f_parens)], oR false 9 1 (List.map z0v a0.f_out)] (z0a r) (z0b r) := by
 refine fnT (cx := cx X) Tryz.f85 Tryz.call85 Tryz.func85 (by kernel_rfl) ?_
 unfold z07 at h
 obtain ⟨v1, k1, h⟩ := z06 h
 obtain rfl := retE h
 exact fin (ok X) 1 [.l (List.map z0v v1)] (pA (apm (L := a0.f_out) (M := a1) zcp k1) pT) (by kernel_rfl)

theorem ze6 {a0 : Int} {r : Bool} (h : zbe a0 = some r) : Cv Tryz.prog (GX X) 90 [.c (.pv (.int .u8 a0))] (zap r) := by
 refine Cs.toV (?_ : Cs Tryz.prog (GX X) 90 [.c (.pv (.int .u8 a0))] [] (zap r) (zmk r)) (by kernel_rfl)
 refine fnT (cx := cx X) Tryz.f90 Tryz.call90 Tryz.func90 (by kernel_rfl) ?_
 unfold zbe at h
 rcases iteE h with ⟨k1, h⟩ | ⟨k1, h⟩
 ·obtain rfl := retE h
  exact fin (ok X) 5 (bT 3 []) (pR 3 k1 pT) (by kernel_rfl)
 ·obtain rfl := retE h
  exact fin (ok X) 5 (bF 3 []) (pR 3 k1 pT) (by kernel_rfl)

theorem zjc {a0 : Int} {r : Bool} (h : zch a0 = some r) : Cv Tryz.prog (GX X) 93 [.c (.pv (.int .u8 a0))] (zd2 r) := by
 refine Cs.toV (?_ : Cs Tryz.prog (GX X) 93 [.c (.pv (.int .u8 a0))] [] (zd2 r) (zob r)) (by kernel_rfl)
 refine fnT (cx := cx X) Tryz.f93 Tryz.call93 Tryz.func93 (by kernel_rfl) ?_
 unfold zch at h
 rcases iteE h with ⟨k1, h⟩ | ⟨k1, h⟩
 ·obtain rfl := retE h
  exact fin (ok X) 5 (bT 3 []) (pR 3 k1 pT) (by kernel_rfl)
 ·obtain rfl := retE h
  exact fin (ok X) 5 (bF 3 []) (pR 3 k1 pT) (by kernel_rfl)

theorem zmr {a0 : ByteArray} {r : Int} (h : zhh a0 = some r) : Cv Tryz.prog (GX X) 92 [xS a0] (zdz r) := by
 refine Cs.toV (?_ : Cs Tryz.prog (GX X) 92 [xS a0] [] (zdz r) (zml r)) (by kernel_rfl)
 refine fnT (cx := cx X) Tryz.f92 Tryz.call92 Tryz.func92 (by kernel_rfl) ?_
 unfold zhh at h
 refine adv (ok X) 5 [] pT (by kernel_rfl) ?_
 refine lp (ok X) (zaa a0) (fun (x1 : Int) => ⟨23, 0, [(0, [xS a0]), (3, [xI x1])], []⟩) (fun (j1 : Int) => ⟨23, 0, [(3, [xI j1])], []⟩) zu0 0 (fun _ => ⟨_, _, _, _, rfl⟩) h (by kernel_rfl) (fun x1 o h => ?_) (fun r' h => ?_) (fun j1 h => ?_)
 ·unfold zaa at h
  refine adv (ok X) 2 [] pT (by kernel_rfl) ?_
  refine jn (ok X) 1 (fun (j2 : Bool) => ⟨23, 0, [(0, [xS a0]), (3, [xI x1]), (19, [xB j2])], []⟩) h (fun j2 h => ?_) (fun j2 h => ?_)
  ·rcases iteE h with ⟨k1, h⟩ | ⟨k1, h⟩
   ·obtain ⟨v1, k2, h⟩ := z06 h
    obtain ⟨v2, k3, h⟩ := z06 h
    rcases iteE h with ⟨k4, h⟩ | ⟨k4, h⟩
    ·obtain rfl := retE h
     exact fin (ok X) 1 (bT 3 (.i v1 :: .b true :: .c (zap v2) :: bT 8 [])) (pR 3 k1 (pA k2 (pA k1 (pA (ze6 (X := X) k3) (pA k1 (pR 4 k4 (pA k1 (pA k4 (pA k1 pT))))))))) (by kernel_rfl)
    ·obtain ⟨v3, k5, h⟩ := z06 h
     obtain ⟨v4, k6, h⟩ := z06 h
     obtain rfl := retE h
     exact fin (ok X) 1 (bT 3 (.i v1 :: .b true :: .c (zap v2) :: .b true :: bF 3 [.i v3, .b false, .c (zd2 v4), .b true, .b false, .b true])) (pR 3 k1 (pA k2 (pA k1 (pA (ze6 (X := X) k3) (pA k1 (pR 3 k4 (pA k5 (pA k4 (pA (zjc (X := X) k6) (pA k1 (pA k4 (pA k1 pT)))))))))))) (by kernel_rfl)
   ·obtain rfl := retE h
    exact fin (ok X) 1 (bF 7 []) (pR 7 k1 pT) (by kernel_rfl)
  ·rcases iteE h with ⟨k7, h⟩ | ⟨k7, h⟩
   ·obtain rfl := retE h
    exact fin (ok X) 5 [.b true] (pA k7 pT) (by kernel_rfl)
   ·obtain rfl := retE h
    exact fin (ok X) 2 [.b false] (pA k7 pT) (by kernel_rfl)
 ·cases h
 ·obtain rfl := retE h
  exact fin (ok X) 3 [] pT (by kernel_rfl)

theorem zjy {a0 : ByteArray} {r : Bool} (h : zaq a0 = some r) : Cv Tryz.prog (GX X) 111 [xS a0] (zcc r) := by
 refine Cs.toV (?_ : Cs Tryz.prog (GX X) 111 [xS a0] [] (zcc r) (zjt r)) (by kernel_rfl)
 refine fnT (cx := cx X) Tryz.f111 Tryz.call111 Tryz.func111 (by kernel_rfl) ?_
 unfold zaq at h
 rcases iteE h with ⟨k1, h⟩ | ⟨k1, h⟩
 ·obtain rfl := retE h
  exact fin (ok X) 15 [.b true, .b true] (pA k1 (pA k1 pT)) (by kernel_rfl)
 ·refine adv (ok X) 12 [.b false] (pA k1 pT) (by kernel_rfl) ?_
  rcases iteE h with ⟨k2, h⟩ | ⟨k2, h⟩
  ·obtain rfl := retE h
   exact fin (ok X) 6 [.b true, .b true] (pA k2 (pA k2 pT)) (by kernel_rfl)
  ·refine adv (ok X) 3 [.b false] (pA k2 pT) (by kernel_rfl) ?_
   rcases iteE h with ⟨k3, h⟩ | ⟨k3, h⟩
   ·obtain rfl := retE h
    exact fin (ok X) 6 [.b true, .b true] (pA k3 (pA k3 pT)) (by kernel_rfl)
   ·refine adv (ok X) 3 [.b false] (pA k3 pT) (by kernel_rfl) ?_
    rcases iteE h with ⟨k4, h⟩ | ⟨k4, h⟩
    ·obtain rfl := retE h
     exact fin (ok X) 6 [.b true, .b true] (pA k4 (pA k4 pT)) (by kernel_rfl)
    ·refine adv (ok X) 3 [.b false] (pA k4 pT) (by kernel_rfl) ?_
     rcases iteE h with ⟨k5, h⟩ | ⟨k5, h⟩
     ·obtain rfl := retE h
      exact fin (ok X) 6 [.b true, .b true] (pA k5 (pA k5 pT)) (by kernel_rfl)
     ·refine adv (ok X) 3 [.b false] (pA k5 pT) (by kernel_rfl) ?_
      rcases iteE h with ⟨k6, h⟩ | ⟨k6, h⟩
      ·obtain rfl := retE h
       exact fin (ok X) 6 [.b true, .b true] (pA k6 (pA k6 pT)) (by kernel_rfl)
      ·refine adv (ok X) 3 [.b false] (pA k6 pT) (by kernel_rfl) ?_
       rcases iteE h with ⟨k7, h⟩ | ⟨k7, h⟩
       ·obtain rfl := retE h
        exact fin (ok X) 6 [.b true, .b true] (pA k7 (pA k7 pT)) (by kernel_rfl)
       ·refine adv (ok X) 2 [.b false] (pA k7 pT) (by kernel_rfl) ?_
        rcases iteE h with ⟨k8, h⟩ | ⟨k8, h⟩
        ·obtain rfl := retE h
         exact fin (ok X) 4 [.b true] (pA k8 pT) (by kernel_rfl)
        ·refine adv (ok X) 4 [.b false] (pA k8 pT) (by kernel_rfl) ?_
         rcases iteE h with ⟨k9, h⟩ | ⟨k9, h⟩
         ·obtain rfl := retE h
          exact fin (ok X) 6 [.b true, .b true] (pA k9 (pA k9 pT)) (by kernel_rfl)
         ·refine adv (ok X) 3 [.b false] (pA k9 pT) (by kernel_rfl) ?_
          rcases iteE h with ⟨k10, h⟩ | ⟨k10, h⟩
          ·obtain rfl := retE h
           exact fin (ok X) 6 [.b true, .b true] (pA k10 (pA k10 pT)) (by kernel_rfl)
          ·refine adv (ok X) 3 [.b false] (pA k10 pT) (by kernel_rfl) ?_
           rcases iteE h with ⟨k11, h⟩ | ⟨k11, h⟩
           ·obtain rfl := retE h
            exact fin (ok X) 6 [.b true, .b true] (pA k11 (pA k11 pT)) (by kernel_rfl)
           ·refine adv (ok X) 3 [.b false] (pA k11 pT) (by kernel_rfl) ?_
            rcases iteE h with ⟨k12, h⟩ | ⟨k12, h⟩
            ·obtain rfl := retE h
             exact fin (ok X) 6 [.b true, .b true] (pA k12 (pA k12 pT)) (by kernel_rfl)
            ·refine adv (ok X) 3 [.b false] (pA k12 pT) (by kernel_rfl) ?_
             rcases iteE h with ⟨k13, h⟩ | ⟨k13, h⟩
             ·obtain rfl := retE h
              exact fin (ok X) 6 [.b true, .b true] (pA k13 (pA k13 pT)) (by kernel_rfl)
             ·refine adv (ok X) 3 [.b false] (pA k13 pT) (by kernel_rfl) ?_
              rcases iteE h with ⟨k14, h⟩ | ⟨k14, h⟩
              ·obtain rfl := retE h
               exact fin (ok X) 6 [.b true, .b true] (pA k14 (pA k14 pT)) (by kernel_rfl)
              ·refine adv (ok X) 3 [.b false] (pA k14 pT) (by kernel_rfl) ?_
               rcases iteE h with ⟨k15, h⟩ | ⟨k15, h⟩
               ·obtain rfl := retE h
                exact fin (ok X) 6 [.b true, .b true] (pA k15 (pA k15 pT)) (by kernel_rfl)
               ·refine adv (ok X) 2 [.b false] (pA k15 pT) (by kernel_rfl) ?_
                rcases iteE h with ⟨k16, h⟩ | ⟨k16, h⟩
                ·obtain rfl := retE h
                 exact fin (ok X) 4 [.b true] (pA k16 pT) (by kernel_rfl)
                ·obtain rfl := retE h
                 exact fin (ok X) 6 [.b false] (pA k16 pT) (by kernel_rfl)

theorem zol {a0 : ByteArray} {r : (z0e × Int)} (h : zci a0 = some r) : Cv Tryz.prog (GX X) 91 [xS a0] (zfq r) := by
 refine Cs.toV (?_ : Cs Tryz.prog (GX X) 91 [xS a0] [] (zfq r) (zoc r)) (by kernel_rfl)
 refine fnT (cx := cx X) Tryz.f91 Tryz.call91 Tryz.func91 (by kernel_rfl) ?_
 unfold zci at h
 rcases iteE h with ⟨k1, h⟩ | ⟨k1, h⟩
 ·obtain rfl := retE h
  exact fin (ok X) 10 [.b true] (pA k1 pT) (by kernel_rfl)
 ·obtain ⟨v1, k2, h⟩ := z06 h
  refine adv (ok X) 9 [.b false, .c (zcc v1)] (pA k1 (pA (zjy (X := X) k2) pT)) (by kernel_rfl) ?_
  rcases iteE h with ⟨k3, h⟩ | ⟨k3, h⟩
  ·obtain rfl := retE h
   exact fin (ok X) 4 [.b true] (pA k3 pT) (by kernel_rfl)
  ·obtain rfl := retE h
   exact fin (ok X) 6 [.b false] (pA k3 pT) (by kernel_rfl)

theorem zs1 {a0 : ByteArray} {r : Int} (h : zgn a0 = some r) : Cv Tryz.prog (GX X) 95 [xS a0] (zhi r) := by
 refine Cs.toV (?_ : Cs Tryz.prog (GX X) 95 [xS a0] [] (zhi r) (zru r)) (by kernel_rfl)
 refine fnT (cx := cx X) Tryz.f95 Tryz.call95 Tryz.func95 (by kernel_rfl) ?_
 unfold zgn at h
 refine adv (ok X) 4 [] pT (by kernel_rfl) ?_
 refine jn (ok X) 1 (fun (j1 : Bool) => ⟨21, 0, [(0, [xS a0]), (16, [xB j1])], []⟩) h (fun j1 h => ?_) (fun j1 h => ?_)
 ·rcases iteE h with ⟨k1, h⟩ | ⟨k1, h⟩
  ·obtain ⟨v1, k2, h⟩ := z06 h
   rcases iteE h with ⟨k3, h⟩ | ⟨k3, h⟩
   ·obtain ⟨v2, k4, h⟩ := z06 h
    obtain ⟨v3, k5, h⟩ := z06 h
    obtain rfl := retE h
    exact fin (ok X) 1 (.b true :: .b true :: .i v1 :: bT 4 [.i v2, .b true, .c (zod v3), .b true, .b true]) (pA k1 (pA k1 (pA k2 (pA k1 (pA k1 (pA k3 (pA k3 (pA k4 (pA k3 (pA (zu4 (X := X) k5) (pA k3 (pA k3 pT)))))))))))) (by kernel_rfl)
   ·obtain rfl := retE h
    exact fin (ok X) 1 (.b true :: .b true :: .i v1 :: .b true :: .b true :: bF 5 []) (pA k1 (pA k1 (pA k2 (pA k1 (pA k1 (pR 5 k3 pT)))))) (by kernel_rfl)
  ·obtain rfl := retE h
   exact fin (ok X) 1 (bF 9 []) (pR 4 k1 (pR 5 ff pT)) (by kernel_rfl)
 ·rcases iteE h with ⟨k6, h⟩ | ⟨k6, h⟩
  ·obtain rfl := retE h
   exact fin (ok X) 4 [.b true] (pA k6 pT) (by kernel_rfl)
  ·obtain ⟨v4, k7, h⟩ := z06 h
   obtain ⟨v5, k8, h⟩ := z06 h
   refine adv (ok X) 5 [.b false, .i v4, .c (zod v5)] (pA k6 (pA k7 (pA (zu4 (X := X) k8) pT))) (by kernel_rfl) ?_
   rcases iteE h with ⟨k9, h⟩ | ⟨k9, h⟩
   ·obtain rfl := retE h
    exact fin (ok X) 4 [.b true] (pA k9 pT) (by kernel_rfl)
   ·obtain rfl := retE h
    exact fin (ok X) 5 [.b false] (pA k9 pT) (by kernel_rfl)

theorem zs2 {a0 : ByteArray} {r : (z0e × Int)} (h : zd3 a0 = some r) : Cv Tryz.prog (GX X) 55 [xS a0] (zhj r) := by
 refine Cs.toV (?_ : Cs Tryz.prog (GX X) 55 [xS a0] [] (zhj r) (zrv r)) (by kernel_rfl)
 refine fnT (cx := cx X) Tryz.f55 Tryz.call55 Tryz.func55 (by kernel_rfl) ?_
 unfold zd3 at h
 obtain ⟨v1, k1, h⟩ := z06 h
 obtain ⟨v2, k2, h⟩ := z06 h
 refine adv (ok X) 6 [.i v1, .c (zap v2)] (pA k1 (pA (ze6 (X := X) k2) pT)) (by kernel_rfl) ?_
 rcases iteE h with ⟨k3, h⟩ | ⟨k3, h⟩
 ·obtain ⟨v3, k4, h⟩ := z06 h
  obtain ⟨v4, k5, h⟩ := z06 h
  obtain ⟨v5, k6, h⟩ := z06 h
  obtain rfl := retE h
  exact fin (ok X) 4 [.b true, .c (zdz v3), .x [xS v4], .c (zfq v5)] (pA k3 (pA (zmr (X := X) k4) (pA k5 (pA (zol (X := X) k6) pT)))) (by kernel_rfl)
 ·obtain ⟨v6, k7, h⟩ := z06 h
  obtain ⟨v7, k8, h⟩ := z06 h
  refine adv (ok X) 3 [.b false, .i v6, .c (zd2 v7)] (pA k3 (pA k7 (pA (zjc (X := X) k8) pT))) (by kernel_rfl) ?_
  rcases iteE h with ⟨k9, h⟩ | ⟨k9, h⟩
  ·obtain ⟨v8, k10, h⟩ := z06 h
   obtain ⟨v9, k11, h⟩ := z06 h
   obtain ⟨v10, k12, h⟩ := z06 h
   obtain rfl := retE h
   exact fin (ok X) 8 [.b true, .c (zdz v8), .x [xS v9], .c (zpy v10)] (pA k9 (pA (zmr (X := X) k10) (pA k11 (pA (zwm (X := X) k12) pT)))) (by kernel_rfl)
  ·obtain ⟨v11, k13, h⟩ := z06 h
   refine adv (ok X) 8 [.b false, .c (zhi v11)] (pA k9 (pA (zs1 (X := X) k13) pT)) (by kernel_rfl) ?_
   rcases iteE h with ⟨k14, h⟩ | ⟨k14, h⟩
   ·obtain rfl := retE h
    exact fin (ok X) 4 [.b true] (pA k14 pT) (by kernel_rfl)
   ·obtain ⟨v12, k15, h⟩ := z06 h
    obtain rfl := retE h
    exact fin (ok X) 5 [.b false, .x [xS v12]] (pA k14 (pA k15 pT)) (by kernel_rfl)

theorem zms {a0 : ByteArray} {r : ((List z0e) × Int × Int)} (h : ze0 a0 = some r) : Cv Tryz.prog (GX X) 19 [xS a0] (ze1 r) := by
 refine Cs.toV (?_ : Cs Tryz.prog (GX X) 19 [xS a0] [] (ze1 r) (zmm r)) (by kernel_rfl)
 refine fnT (cx := cx X) Tryz.f19 Tryz.call19 Tryz.func19 (by kernel_rfl) ?_
 unfold ze0 at h
 refine adv (ok X) 7 [] pT (by kernel_rfl) ?_
 refine lp (ok X) (zab a0) (fun (x1 : (Int × (List z0e))) => ⟨53, 0, [(0, [xS a0]), (5, [xR 0]), (6, [xI x1.1])], [oR true 140 4 (List.map z1c x1.2)]⟩) (fun (j1 : (List z0e)) => ⟨53, 0, [(0, [xS a0]), (5, [xR 0])], [oR true 140 4 (List.map z1c j1)]⟩) zu1 (0, []) (fun _ => ⟨_, _, _, _, rfl⟩) h (by kernel_rfl) (fun x1 o h => ?_) (fun r' h => ?_) (fun j1 h => ?_)
 ·unfold zab at h
  rcases iteE h with ⟨k1, h⟩ | ⟨k1, h⟩
  ·refine adv (ok X) 8 [.b true] (pA k1 pT) (by kernel_rfl) ?_
   refine jn (ok X) 1 (fun (j2 : Bool) => ⟨53, 0, [(0, [xS a0]), (5, [xR 0]), (6, [xI x1.1]), (22, [xB j2])], [oR true 140 4 (List.map z1c x1.2)]⟩) h (fun j2 h => ?_) (fun j2 h => ?_)
   ·obtain ⟨v1, k2, h⟩ := z06 h
    rcases iteE h with ⟨k3, h⟩ | ⟨k3, h⟩
    ·obtain rfl := retE h
     exact fin (ok X) 1 (.i v1 :: bT 5 []) (pA k2 (pR 5 k3 pT)) (by kernel_rfl)
    ·obtain ⟨v2, k4, h⟩ := z06 h
     obtain rfl := retE h
     exact fin (ok X) 1 (.i v1 :: bF 3 [.i v2, .b false, .b false]) (pA k2 (pR 3 k3 (pA k4 (pA k3 (pA k3 pT))))) (by kernel_rfl)
   ·rcases iteE h with ⟨k5, h⟩ | ⟨k5, h⟩
    ·obtain rfl := retE h
     exact fin (ok X) 4 [.b true] (pA k5 pT) (by kernel_rfl)
    ·obtain ⟨v3, k6, h⟩ := z06 h
     obtain ⟨v4, k7, h⟩ := z06 h
     refine adv (ok X) 7 [.b false, .x [xS v3], .c (zhj v4)] (pA k5 (pA k6 (pA (zs2 (X := X) k7) pT))) (by kernel_rfl) ?_
     rcases iteE h with ⟨k8, h⟩ | ⟨k8, h⟩
     ·obtain rfl := retE h
      exact fin (ok X) 4 [.b true] (pA k8 pT) (by kernel_rfl)
     ·obtain ⟨v5, k9, h⟩ := z06 h
      obtain rfl := retE h
      exact fin (ok X) 8 [.b false, .l (List.map z1c v5)] (pA k8 (pA (apm (L := x1.2) (M := [(z0e.mk v4.1.Kind v4.1.Text v4.1.Num x1.1)]) zbt k9) pT)) (by kernel_rfl)
  ·obtain rfl := retE h
   exact fin (ok X) 5 [.b false] (pA k1 pT) (by kernel_rfl)
 ·obtain rfl := retE h
  kernel_rfl
 ·refine adv (ok X) 3 [.i (j1.length : Int)] (pA (lm z1c j1) pT) (by kernel_rfl) ?_
  rcases iteE h with ⟨k10, h⟩ | ⟨k10, h⟩
  ·obtain rfl := retE h
   exact fin (ok X) 4 [.b true] (pA k10 pT) (by kernel_rfl)
  ·obtain rfl := retE h
   exact fin (ok X) 5 [.b false] (pA k10 pT) (by kernel_rfl)

theorem z35 {a0 : z01} {a1 : Bool} {r : z01} (h : z2m a0 a1 = some r) : Cs Tryz.prog (GX X) 87 [xP 0 0, xB a1] [oB 135 [.row 1, .pv (.bool a0.f_form), .pv (.bool a0.f_deep), .pv (.int .i64 a0.f_blocks), .pv (.int .i64 a0.f_parens)], oR false 9 1 (List.map z0v a0.f_out)] (z2y r) (z2z r) := by
 refine fnT (cx := cx X) Tryz.f87 Tryz.call87 Tryz.func87 (by kernel_rfl) ?_
 unfold z2m at h
 rcases iteE h with ⟨k1, h⟩ | ⟨k1, h⟩
 ·obtain rfl := retE h
  exact fin (ok X) 1 (bT 3 []) (pR 3 k1 pT) (by kernel_rfl)
 ·obtain rfl := retE h
  exact fin (ok X) 1 (bF 3 []) (pR 3 k1 pT) (by kernel_rfl)

theorem z1r {a0 : z01} {a1 : ByteArray} {r : z01} (h : z18 a0 a1 = some r) : Cs Tryz.prog (GX X) 86 [xP 0 0, xS a1] [oB 135 [.row 1, .pv (.bool a0.f_form), .pv (.bool a0.f_deep), .pv (.int .i64 a0.f_blocks), .pv (.int .i64 a0.f_parens)], oR false 9 1 (List.map z0v a0.f_out)] (z1j r) (z1k r) := by
 refine fnT (cx := cx X) Tryz.f86 Tryz.call86 Tryz.func86 (by kernel_rfl) ?_
 unfold z18 at h
 obtain ⟨v1, k1, h⟩ := z06 h
 refine adv (ok X) 3 [.c (ze1 v1)] (pA (zms (X := X) k1) pT) (by kernel_rfl) ?_
 refine jn (ok X) 1 (fun (j1 : (Bool × Bool × Int × Int × (List ByteArray))) => ⟨41, 2, [(0, [xP 0 0]), (1, [xS a1])], [oB 135 [.row 1, .pv (.bool j1.1), .pv (.bool j1.2.1), .pv (.int .i64 j1.2.2.1), .pv (.int .i64 j1.2.2.2.1)], oR true 9 1 (List.map z0v j1.2.2.2.2)]⟩) h (fun j1 h => ?_) (fun j1 h => ?_)
 ·rcases iteE h with ⟨k2, h⟩ | ⟨k2, h⟩
  ·rcases iteE h with ⟨k3, h⟩ | ⟨k3, h⟩
   ·obtain ⟨v2, k4, h⟩ := z06 h
    rcases iteE h with ⟨k5, h⟩ | ⟨k5, h⟩
    ·obtain ⟨v3, k6, h⟩ := z06 h
     obtain ⟨v4, k7, h⟩ := z06 h
     obtain rfl := retE h
     exact fin (ok X) 1 (.b true :: .b true :: .i (v1.1.length : Int) :: bT 4 (.e (z1c v2) :: bT 6 (.e (z1c v3) :: bT 5 [.s (z2y v4) (z2z v4)]))) (pA k2 (pA k2 (pA (lm z1c v1.1) (pA k2 (pA k2 (pA k3 (pA k3 (pA (ixm z1c k4) (pR 4 k3 (pA k5 (pA k5 (pA (ixm z1c k6) (pR 5 k5 (pA (z35 (X := X) k7) pT)))))))))))))) (by kernel_rfl)
    ·obtain ⟨v5, k8, h⟩ := z06 h
     obtain rfl := retE h
     exact fin (ok X) 1 (.b true :: .b true :: .i (v1.1.length : Int) :: bT 4 (.e (z1c v2) :: bT 4 (bF 7 [.s (z2y v5) (z2z v5)]))) (pA k2 (pA k2 (pA (lm z1c v1.1) (pA k2 (pA k2 (pA k3 (pA k3 (pA (ixm z1c k4) (pR 4 k3 (pR 7 k5 (pA (z35 (X := X) k8) pT))))))))))) (by kernel_rfl)
   ·obtain ⟨v6, k9, h⟩ := z06 h
    obtain rfl := retE h
    exact fin (ok X) 1 (.b true :: .b true :: .i (v1.1.length : Int) :: .b true :: .b true :: bF 13 [.s (z2y v6) (z2z v6)]) (pA k2 (pA k2 (pA (lm z1c v1.1) (pA k2 (pA k2 (pR 6 k3 (pR 7 ff (pA (z35 (X := X) k9) pT)))))))) (by kernel_rfl)
  ·obtain ⟨v7, k10, h⟩ := z06 h
   obtain rfl := retE h
   exact fin (ok X) 1 (bF 17 [.s (z2y v7) (z2z v7)]) (pR 4 k2 (pR 13 ff (pA (z35 (X := X) k10) pT))) (by kernel_rfl)
 ·obtain ⟨v8, k11, h⟩ := z06 h
  obtain rfl := retE h
  exact fin (ok X) 1 [.s (z0a v8) (z0b v8)] (pA (z0c (X := X) k11) pT) (by kernel_rfl)

theorem z6m {a0 : z01} {a1 : Int} {r : z01} (h : z44 a0 a1 = some r) : Cs Tryz.prog (GX X) 88 [xP 0 0, xI a1] [oB 135 [.row 1, .pv (.bool a0.f_form), .pv (.bool a0.f_deep), .pv (.int .i64 a0.f_blocks), .pv (.int .i64 a0.f_parens)], oR false 9 1 (List.map z0v a0.f_out)] (z5s r) (z5t r) := by
 refine fnT (cx := cx X) Tryz.f88 Tryz.call88 Tryz.func88 (by kernel_rfl) ?_
 unfold z44 at h
 refine adv (ok X) 1 [] pT (by kernel_rfl) ?_
 refine jn (ok X) 1 (fun (j1 : (Bool × Bool × Int × Int × (List ByteArray))) => ⟨17, 2, [(0, [xP 0 0]), (1, [xI a1])], [oB 135 [.row 1, .pv (.bool j1.1), .pv (.bool j1.2.1), .pv (.int .i64 j1.2.2.1), .pv (.int .i64 j1.2.2.2.1)], oR true 9 1 (List.map z0v j1.2.2.2.2)]⟩) h (fun j1 h => ?_) (fun j1 h => ?_)
 ·rcases iteE h with ⟨k1, h⟩ | ⟨k1, h⟩
  ·obtain ⟨v1, k2, h⟩ := z06 h
   obtain rfl := retE h
   exact fin (ok X) 1 (bT 3 [.s (z2y v1) (z2z v1)]) (pR 3 k1 (pA (z35 (X := X) k2) pT)) (by kernel_rfl)
  ·obtain ⟨v2, k3, h⟩ := z06 h
   obtain rfl := retE h
   exact fin (ok X) 1 (bF 3 [.s (z2y v2) (z2z v2)]) (pR 3 k1 (pA (z35 (X := X) k3) pT)) (by kernel_rfl)
 ·obtain ⟨v3, k4, h⟩ := z06 h
  obtain ⟨v4, k5, h⟩ := z06 h
  obtain rfl := retE h
  exact fin (ok X) 1 [.c (zy4 v3), .s (z0a v4) (z0b v4)] (pA (z026 (X := X) k4) (pA (z0c (X := X) k5) pT)) (by kernel_rfl)

theorem zf3 {a0 : z01} {a1 : z23} {r : z01} (h : z62 a0 a1 = some r) : Cs Tryz.prog (GX X) 52 [xP 0 0, .agg (bs (z1u a1))] [oB 135 [.row 1, .pv (.bool a0.f_form), .pv (.bool a0.f_deep), .pv (.int .i64 a0.f_blocks), .pv (.int .i64 a0.f_parens)], oR false 9 1 (List.map z0v a0.f_out)] (z8p r) (z8q r) := by
 refine fnT (cx := cx X) Tryz.f52 Tryz.call52 Tryz.func52 (by kernel_rfl) ?_
 unfold z62 at h
 obtain ⟨v1, k1, h⟩ := z06 h
 obtain ⟨v2, k2, h⟩ := z06 h
 refine adv (ok X) 8 [.s (z0a v1) (z0b v1), .s (z1j v2) (z1k v2)] (pA (z0c (X := X) k1) (pA (z1r (X := X) k2) pT)) (by kernel_rfl) ?_
 refine jn (ok X) 1 (fun (j1 : Bool) => ⟨77, 2, [(0, [xP 0 0]), (3, [xP 2 0]), (20, [xB j1])], [oB 135 [.row 1, .pv (.bool v2.f_form), .pv (.bool v2.f_deep), .pv (.int .i64 v2.f_blocks), .pv (.int .i64 v2.f_parens)], oR true 9 1 (List.map z0v v2.f_out), oB 73 (bs (z1u a1))]⟩) h (fun j1 h => ?_) (fun j1 h => ?_)
 ·rcases iteE h with ⟨k3, h⟩ | ⟨k3, h⟩
  ·obtain rfl := retE h
   exact fin (ok X) 1 (bT 4 []) (pR 4 k3 pT) (by kernel_rfl)
  ·obtain rfl := retE h
   exact fin (ok X) 1 (bF 4 []) (pR 4 k3 pT) (by kernel_rfl)
 ·rcases iteE h with ⟨k4, h⟩ | ⟨k4, h⟩
  ·obtain ⟨v3, k5, h⟩ := z06 h
   obtain ⟨v4, k6, h⟩ := z06 h
   obtain ⟨v5, k7, h⟩ := z06 h
   obtain ⟨v6, k8, h⟩ := z06 h
   obtain ⟨v7, k9, h⟩ := z06 h
   obtain ⟨v8, k10, h⟩ := z06 h
   obtain ⟨v9, k11, h⟩ := z06 h
   obtain ⟨v10, k12, h⟩ := z06 h
   refine adv (ok X) 19 [.b true, .s (z2y v3) (z2z v3), .s (z5s v4) (z5t v4), .s (z0a v5) (z0b v5), .s (z1j v6) (z1k v6), .s (z0a v7) (z0b v7), .s (z1j v8) (z1k v8), .s (z0a v9) (z0b v9), .i (a1.Tags.length : Int), .s (z2y v10) (z2z v10), .i (a1.Tags.length : Int)] (pA k4 (pA (z35 (X := X) k5) (pA (z6m (X := X) k6) (pA (z0c (X := X) k7) (pA (z1r (X := X) k8) (pA (z0c (X := X) k9) (pA (z1r (X := X) k10) (pA (z0c (X := X) k11) (pA (lm z0v a1.Tags) (pA (z35 (X := X) k12) (pA (lm z0v a1.Tags) pT))))))))))) (by kernel_rfl) ?_
   refine lp (ok X) (z4q a1) (fun (x2 : (Int × Bool × Bool × Int × Int × (List ByteArray))) => ⟨77, 2, [(0, [xP 0 0]), (58, [xL (List.map z0v a1.Tags)]), (59, [xI (a1.Tags.length : Int)]), (60, [xI x2.1])], [oB 135 [.row 1, .pv (.bool x2.2.1), .pv (.bool x2.2.2.1), .pv (.int .i64 x2.2.2.2.1), .pv (.int .i64 x2.2.2.2.2.1)], oR true 9 1 (List.map z0v x2.2.2.2.2.2)]⟩) (fun (j2 : (Bool × Bool × Int × Int × (List ByteArray))) => ⟨77, 2, [(0, [xP 0 0])], [oB 135 [.row 1, .pv (.bool j2.1), .pv (.bool j2.2.1), .pv (.int .i64 j2.2.2.1), .pv (.int .i64 j2.2.2.2.1)], oR true 9 1 (List.map z0v j2.2.2.2.2)]⟩) zb2 (0, v10.f_form, v10.f_deep, v10.f_blocks, v10.f_parens, v10.f_out) (fun _ => ⟨_, _, _, _, rfl⟩) h (by kernel_rfl) (fun x2 o h => ?_) (fun r' h => ?_) (fun j2 h => ?_)
   ·unfold z4q at h
    rcases iteE h with ⟨k13, h⟩ | ⟨k13, h⟩
    ·refine adv (ok X) 6 [.b true] (pA k13 pT) (by kernel_rfl) ?_
     refine jn (ok X) 1 (fun (j3 : (Bool × Bool × Int × Int × (List ByteArray))) => ⟨77, 2, [(0, [xP 0 0]), (58, [xL (List.map z0v a1.Tags)]), (59, [xI (a1.Tags.length : Int)]), (60, [xI x2.1])], [oB 135 [.row 1, .pv (.bool j3.1), .pv (.bool j3.2.1), .pv (.int .i64 j3.2.2.1), .pv (.int .i64 j3.2.2.2.1)], oR true 9 1 (List.map z0v j3.2.2.2.2)]⟩) h (fun j3 h => ?_) (fun j3 h => ?_)
     ·obtain ⟨v11, k14, h⟩ := z06 h
      refine adv (ok X) 6 [.e [.str v11]] (pA (ixm z0v k14) pT) (by kernel_rfl) ?_
      rcases iteE h with ⟨k15, h⟩ | ⟨k15, h⟩
      ·obtain ⟨v12, k16, h⟩ := z06 h
       obtain ⟨v13, k17, h⟩ := z06 h
       obtain rfl := retE h
       exact fin (ok X) 4 [.b true, .s (z0a v12) (z0b v12), .s (z1j v13) (z1k v13)] (pA k15 (pA (z0c (X := X) k16) (pA (z1r (X := X) k17) pT))) (by kernel_rfl)
      ·obtain ⟨v14, k18, h⟩ := z06 h
       obtain rfl := retE h
       exact fin (ok X) 4 [.b false, .s (z1j v14) (z1k v14)] (pA k15 (pA (z1r (X := X) k18) pT)) (by kernel_rfl)
     ·obtain rfl := retE h
      exact fin (ok X) 1 [] pT (by kernel_rfl)
    ·obtain rfl := retE h
     exact fin (ok X) 5 [.b false] (pA k13 pT) (by kernel_rfl)
   ·cases h
   ·obtain ⟨v15, k19, h⟩ := z06 h
    obtain rfl := retE h
    exact fin (ok X) 1 [.s (z0a v15) (z0b v15)] (pA (z0c (X := X) k19) pT) (by kernel_rfl)
  ·obtain ⟨v16, k20, h⟩ := z06 h
   obtain ⟨v17, k21, h⟩ := z06 h
   obtain ⟨v18, k22, h⟩ := z06 h
   obtain ⟨v19, k23, h⟩ := z06 h
   obtain ⟨v20, k24, h⟩ := z06 h
   obtain ⟨v21, k25, h⟩ := z06 h
   obtain ⟨v22, k26, h⟩ := z06 h
   obtain ⟨v23, k27, h⟩ := z06 h
   obtain ⟨v24, k28, h⟩ := z06 h
   refine adv (ok X) 19 [.b false, .e [.str v16], .s (z0a v17) (z0b v17), .s (z5s v18) (z5t v18), .s (z0a v19) (z0b v19), .s (z1j v20) (z1k v20), .s (z0a v21) (z0b v21), .s (z1j v22) (z1k v22), .s (z0a v23) (z0b v23), .i (a1.Tags.length : Int), .s (z2y v24) (z2z v24), .i (a1.Tags.length : Int)] (pA k4 (pA (ixm z0v k20) (pA (z0c (X := X) k21) (pA (z6m (X := X) k22) (pA (z0c (X := X) k23) (pA (z1r (X := X) k24) (pA (z0c (X := X) k25) (pA (z1r (X := X) k26) (pA (z0c (X := X) k27) (pA (lm z0v a1.Tags) (pA (z35 (X := X) k28) (pA (lm z0v a1.Tags) pT)))))))))))) (by kernel_rfl) ?_
   refine lp (ok X) (z4r a1) (fun (x4 : (Int × Bool × Bool × Int × Int × (List ByteArray))) => ⟨77, 2, [(0, [xP 0 0]), (58, [xL (List.map z0v a1.Tags)]), (59, [xI (a1.Tags.length : Int)]), (60, [xI x4.1])], [oB 135 [.row 1, .pv (.bool x4.2.1), .pv (.bool x4.2.2.1), .pv (.int .i64 x4.2.2.2.1), .pv (.int .i64 x4.2.2.2.2.1)], oR true 9 1 (List.map z0v x4.2.2.2.2.2)]⟩) (fun (j4 : (Bool × Bool × Int × Int × (List ByteArray))) => ⟨77, 2, [(0, [xP 0 0])], [oB 135 [.row 1, .pv (.bool j4.1), .pv (.bool j4.2.1), .pv (.int .i64 j4.2.2.1), .pv (.int .i64 j4.2.2.2.1)], oR true 9 1 (List.map z0v j4.2.2.2.2)]⟩) zb2 (0, v24.f_form, v24.f_deep, v24.f_blocks, v24.f_parens, v24.f_out) (fun _ => ⟨_, _, _, _, rfl⟩) h (by kernel_rfl) (fun x4 o h => ?_) (fun r' h => ?_) (fun j4 h => ?_)
   ·unfold z4r at h
    rcases iteE h with ⟨k29, h⟩ | ⟨k29, h⟩
    ·refine adv (ok X) 6 [.b true] (pA k29 pT) (by kernel_rfl) ?_
     refine jn (ok X) 1 (fun (j5 : (Bool × Bool × Int × Int × (List ByteArray))) => ⟨77, 2, [(0, [xP 0 0]), (58, [xL (List.map z0v a1.Tags)]), (59, [xI (a1.Tags.length : Int)]), (60, [xI x4.1])], [oB 135 [.row 1, .pv (.bool j5.1), .pv (.bool j5.2.1), .pv (.int .i64 j5.2.2.1), .pv (.int .i64 j5.2.2.2.1)], oR true 9 1 (List.map z0v j5.2.2.2.2)]⟩) h (fun j5 h => ?_) (fun j5 h => ?_)
     ·obtain ⟨v25, k30, h⟩ := z06 h
      refine adv (ok X) 6 [.e [.str v25]] (pA (ixm z0v k30) pT) (by kernel_rfl) ?_
      rcases iteE h with ⟨k31, h⟩ | ⟨k31, h⟩
      ·obtain ⟨v26, k32, h⟩ := z06 h
       obtain ⟨v27, k33, h⟩ := z06 h
       obtain rfl := retE h
       exact fin (ok X) 4 [.b true, .s (z0a v26) (z0b v26), .s (z1j v27) (z1k v27)] (pA k31 (pA (z0c (X := X) k32) (pA (z1r (X := X) k33) pT))) (by kernel_rfl)
      ·obtain ⟨v28, k34, h⟩ := z06 h
       obtain rfl := retE h
       exact fin (ok X) 4 [.b false, .s (z1j v28) (z1k v28)] (pA k31 (pA (z1r (X := X) k34) pT)) (by kernel_rfl)
     ·obtain rfl := retE h
      exact fin (ok X) 1 [] pT (by kernel_rfl)
    ·obtain rfl := retE h
     exact fin (ok X) 5 [.b false] (pA k29 pT) (by kernel_rfl)
   ·cases h
   ·obtain ⟨v29, k35, h⟩ := z06 h
    obtain rfl := retE h
    exact fin (ok X) 1 [.s (z0a v29) (z0b v29)] (pA (z0c (X := X) k35) pT) (by kernel_rfl)

theorem zho {a0 : z01} {a1 : z2g} {r : z01} (h : z78 a0 a1 = some r) : Cs Tryz.prog (GX X) 53 [xP 0 0, .agg (bs (z28 a1))] [oB 135 [.row 1, .pv (.bool a0.f_form), .pv (.bool a0.f_deep), .pv (.int .i64 a0.f_blocks), .pv (.int .i64 a0.f_parens)], oR false 9 1 (List.map z0v a0.f_out)] (zac r) (zad r) := by
 refine fnT (cx := cx X) Tryz.f53 Tryz.call53 Tryz.func53 (by kernel_rfl) ?_
 unfold z78 at h
 obtain ⟨v1, k1, h⟩ := z06 h
 obtain ⟨v2, k2, h⟩ := z06 h
 obtain ⟨v3, k3, h⟩ := z06 h
 refine adv (ok X) 11 [.s (z0a v1) (z0b v1), .s (z1j v2) (z1k v2), .s (z0a v3) (z0b v3), .i (a1.Moves.length : Int)] (pA (z0c (X := X) k1) (pA (z1r (X := X) k2) (pA (z0c (X := X) k3) (pA (lm z3o a1.Moves) pT)))) (by kernel_rfl) ?_
 refine lp (ok X) (z5h a1) (fun (x1 : (Int × Bool × Bool × Int × Int × (List ByteArray))) => ⟨42, 2, [(0, [xP 0 0]), (17, [xL (List.map z3o a1.Moves)]), (18, [xI (a1.Moves.length : Int)]), (19, [xI x1.1])], [oB 135 [.row 1, .pv (.bool x1.2.1), .pv (.bool x1.2.2.1), .pv (.int .i64 x1.2.2.2.1), .pv (.int .i64 x1.2.2.2.2.1)], oR true 9 1 (List.map z0v x1.2.2.2.2.2)]⟩) (fun (j1 : (Bool × Bool × Int × Int × (List ByteArray))) => ⟨42, 2, [(0, [xP 0 0])], [oB 135 [.row 1, .pv (.bool j1.1), .pv (.bool j1.2.1), .pv (.int .i64 j1.2.2.1), .pv (.int .i64 j1.2.2.2.1)], oR true 9 1 (List.map z0v j1.2.2.2.2)]⟩) zhk (0, v3.f_form, v3.f_deep, v3.f_blocks, v3.f_parens, v3.f_out) (fun _ => ⟨_, _, _, _, rfl⟩) h (by kernel_rfl) (fun x1 o h => ?_) (fun r' h => ?_) (fun j1 h => ?_)
 ·unfold z5h at h
  rcases iteE h with ⟨k4, h⟩ | ⟨k4, h⟩
  ·obtain ⟨v4, k5, h⟩ := z06 h
   obtain ⟨v5, k6, h⟩ := z06 h
   obtain ⟨v6, k7, h⟩ := z06 h
   obtain ⟨v7, k8, h⟩ := z06 h
   obtain ⟨v8, k9, h⟩ := z06 h
   obtain rfl := retE h
   exact fin (ok X) 18 [.b true, .e (z3o v4), .s (z5s v5) (z5t v5), .s (z1j v6) (z1k v6), .s (z5s v7) (z5t v7), .s (z0a v8) (z0b v8)] (pA k4 (pA (ixm z3o k5) (pA (z6m (X := X) k6) (pA (z1r (X := X) k7) (pA (z6m (X := X) k8) (pA (z0c (X := X) k9) pT)))))) (by kernel_rfl)
  ·obtain rfl := retE h
   exact fin (ok X) 5 [.b false] (pA k4 pT) (by kernel_rfl)
 ·cases h
 ·obtain ⟨v9, k10, h⟩ := z06 h
  obtain rfl := retE h
  exact fin (ok X) 1 [.s (z0a v9) (z0b v9)] (pA (z0c (X := X) k10) pT) (by kernel_rfl)

theorem zey {a0 : Int} {r : Bool} (h : zd4 a0 = some r) : Cv Tryz.prog (GX X) 147 [xI a0] (zbf r) := by
 refine Cs.toV (?_ : Cs Tryz.prog (GX X) 147 [xI a0] [] (zbf r) (zrw r)) (by kernel_rfl)
 refine fnT (cx := cx X) Tryz.f147 Tryz.call147 Tryz.func147 (by kernel_rfl) ?_
 unfold zd4 at h
 rcases iteE h with ⟨k1, h⟩ | ⟨k1, h⟩
 ·obtain rfl := retE h
  exact fin (ok X) 5 (bT 3 []) (pR 3 k1 pT) (by kernel_rfl)
 ·obtain rfl := retE h
  exact fin (ok X) 5 (bF 3 []) (pR 3 k1 pT) (by kernel_rfl)

theorem zaw {a0 : Int} {r : Bool} (h : ze2 a0 = some r) : Cv Tryz.prog (GX X) 148 [xI a0] (z8y r) := by
 refine Cs.toV (?_ : Cs Tryz.prog (GX X) 148 [xI a0] [] (z8y r) (zu2 r)) (by kernel_rfl)
 refine fnT (cx := cx X) Tryz.f148 Tryz.call148 Tryz.func148 (by kernel_rfl) ?_
 unfold ze2 at h
 rcases iteE h with ⟨k1, h⟩ | ⟨k1, h⟩
 ·obtain rfl := retE h
  exact fin (ok X) 5 (bT 3 []) (pR 3 k1 pT) (by kernel_rfl)
 ·obtain rfl := retE h
  exact fin (ok X) 5 (bF 3 []) (pR 3 k1 pT) (by kernel_rfl)

theorem zhp {a0 : z01} {a1 : z04} {r : z01} (h : z82 a0 a1 = some r) : Cs Tryz.prog (GX X) 149 [xP 0 0, .agg (bs (z0d a1))] [oB 135 [.row 1, .pv (.bool a0.f_form), .pv (.bool a0.f_deep), .pv (.int .i64 a0.f_blocks), .pv (.int .i64 a0.f_parens)], oR false 9 1 (List.map z0v a0.f_out)] (zcj r) (zck r) := by
 refine fnT (cx := cx X) Tryz.f149 Tryz.call149 Tryz.func149 (by kernel_rfl) ?_
 unfold z82 at h
 obtain ⟨v1, k1, h⟩ := z06 h
 refine adv (ok X) 7 [.i (a1.Kids.length : Int), .s (z2y v1) (z2z v1)] (pA (lm z0w a1.Kids) (pA (z35 (X := X) k1) pT)) (by kernel_rfl) ?_
 rcases iteE h with ⟨k2, h⟩ | ⟨k2, h⟩
 ·obtain ⟨v2, k3, h⟩ := z06 h
  obtain rfl := retE h
  exact fin (ok X) 4 [.b true, .s (z5s v2) (z5t v2)] (pA k2 (pA (z6m (X := X) k3) pT)) (by kernel_rfl)
 ·obtain ⟨v3, k4, h⟩ := z06 h
  obtain ⟨v4, k5, h⟩ := z06 h
  obtain rfl := retE h
  exact fin (ok X) 5 [.b false, .s (z2y v3) (z2z v3), .s (z1j v4) (z1k v4)] (pA k2 (pA (z35 (X := X) k4) (pA (z1r (X := X) k5) pT))) (by kernel_rfl)

theorem zhq {n : Nat} (ih_ast_writer_expr : ∀ (a0 : z01) (a1 : z04) (r : z01), z1w n a0 a1 = some r → Cs Tryz.prog (GX X) 125 [xP 0 0, .agg (bs (z0d a1))] [oB 135 [.row 1, .pv (.bool a0.f_form), .pv (.bool a0.f_deep), .pv (.int .i64 a0.f_blocks), .pv (.int .i64 a0.f_parens)], oR false 9 1 (List.map z0v a0.f_out)] (z2p r) (z2q r)) (ih_ast_writer_deeper_ast_writer_expr_1 : ∀ (a0 : z01) (a1011 : z04) (r : z01), z0r n a0 a1011 = some r → Cs Tryz.prog (GX X) 144 [xP 0 0, .fn (.func 145) [] [.box 2 0, .box 3 0]] [oB 135 [.row 1, .pv (.bool a0.f_form), .pv (.bool a0.f_deep), .pv (.int .i64 a0.f_blocks), .pv (.int .i64 a0.f_parens)], oR false 9 1 (List.map z0v a0.f_out), oB 133 [.box 0 0], oB 103 (bs (z0d a1011))] (z1d r) (z1e a1011 r)) (ih_ast_writer_kid : ∀ (a0 : z01) (a1 : z04) (a2 : Bool) (r : z01), z1y n a0 a1 a2 = some r → Cs Tryz.prog (GX X) 146 [xP 0 0, .agg (bs (z0d a1)), xB a2] [oB 135 [.row 1, .pv (.bool a0.f_form), .pv (.bool a0.f_deep), .pv (.int .i64 a0.f_blocks), .pv (.int .i64 a0.f_parens)], oR false 9 1 (List.map z0v a0.f_out)] (z3d r) (z3e r)) (ih_ast_writer_expr_1 : ∀ (a0 : z01) (a1 : z04) (r : z01), z2x n a0 a1 = some r → Cs Tryz.prog (GX X) 145 [xP 0 0, xP 3 0] [oB 133 [.box 1 0], oB 135 [.row 2, .pv (.bool a0.f_form), .pv (.bool a0.f_deep), .pv (.int .i64 a0.f_blocks), .pv (.int .i64 a0.f_parens)], oR false 9 1 (List.map z0v a0.f_out), oB 103 (bs (z0d a1))] (z4f r) (z4g a1 r)) (ih_ast_writer_deeper_ast_writer_kid_1 : ∀ (a0 : z01) (a1011 : z04) (r : z01), z0u n a0 a1011 = some r → Cs Tryz.prog (GX X) 144 [xP 0 0, .fn (.func 166) [] [.box 2 0, .box 3 0]] [oB 135 [.row 1, .pv (.bool a0.f_form), .pv (.bool a0.f_deep), .pv (.int .i64 a0.f_blocks), .pv (.int .i64 a0.f_parens)], oR false 9 1 (List.map z0v a0.f_out), oB 133 [.box 0 0], oB 103 (bs (z0d a1011))] (z1g r) (z1h a1011 r)) (ih_ast_writer_kid_1 : ∀ (a0 : z01) (a1 : z04) (r : z01), z34 n a0 a1 = some r → Cs Tryz.prog (GX X) 166 [xP 0 0, xP 3 0] [oB 133 [.box 1 0], oB 135 [.row 2, .pv (.bool a0.f_form), .pv (.bool a0.f_deep), .pv (.int .i64 a0.f_blocks), .pv (.int .i64 a0.f_parens)], oR false 9 1 (List.map z0v a0.f_out), oB 103 (bs (z0d a1))] (z4k r) (z4l a1 r)) (a0 : z01) (a1 : z04) (r : z01) (h : z1w (n + 1) a0 a1 = some r) : Cs Tryz.prog (GX X) 125 [xP 0 0, .agg (bs (z0d a1))] [oB 135 [.row 1, .pv (.bool a0.f_form), .pv (.bool a0.f_deep), .pv (.int .i64 a0.f_blocks), .pv (.int .i64 a0.f_parens)], oR false 9 1 (List.map z0v a0.f_out)] (z2p r) (z2q r) := by
 refine fnT (cx := cx X) Tryz.f125 Tryz.call125 Tryz.func125 (by kernel_rfl) ?_
 rw [z1w] at h
 refine adv (ok X) 4 [] pT (by kernel_rfl) ?_
 refine jn (ok X) 1 (fun (j1 : Bool) => ⟨80, 2, [(2, [xP 2 0]), (3, [xP 3 0]), (9, [xB j1])], [oB 135 [.row 1, .pv (.bool a0.f_form), .pv (.bool a0.f_deep), .pv (.int .i64 a0.f_blocks), .pv (.int .i64 a0.f_parens)], oR false 9 1 (List.map z0v a0.f_out), oB 133 [.box 0 0], oB 103 (bs (z0d a1))]⟩) h (fun j1 h => ?_) (fun j1 h => ?_)
 ·rcases iteE h with ⟨k1, h⟩ | ⟨k1, h⟩
  ·obtain rfl := retE h
   exact fin (ok X) 1 (bT 3 [.i (a1.Kids.length : Int), .b true, .b true]) (pR 3 k1 (pA (lm z0w a1.Kids) (pA k1 (pA k1 pT)))) (by kernel_rfl)
  ·obtain rfl := retE h
   exact fin (ok X) 1 (bF 5 []) (pR 5 k1 pT) (by kernel_rfl)
 ·rcases iteE h with ⟨k2, h⟩ | ⟨k2, h⟩
  ·obtain ⟨v1, k3, h⟩ := z06 h
   obtain ⟨v2, k4, h⟩ := z06 h
   obtain rfl := retE h
   exact fin (ok X) 5 [.b true, .s (z0a v1) (z0b v1), .s (z1d v2) (z1e a1 v2)] (pA k2 (pA (z0c (X := X) k3) (pA (ih_ast_writer_deeper_ast_writer_expr_1 _ _ _ k4) pT))) (by kernel_rfl)
  ·refine adv (ok X) 2 [.b false] (pA k2 pT) (by kernel_rfl) ?_
   refine jn (ok X) 1 (fun (j2 : Bool) => ⟨80, 2, [(2, [xP 2 0]), (3, [xP 3 0]), (25, [xB j2])], [oB 135 [.row 1, .pv (.bool a0.f_form), .pv (.bool a0.f_deep), .pv (.int .i64 a0.f_blocks), .pv (.int .i64 a0.f_parens)], oR false 9 1 (List.map z0v a0.f_out), oB 133 [.box 0 0], oB 103 (bs (z0d a1))]⟩) h (fun j2 h => ?_) (fun j2 h => ?_)
   ·obtain ⟨v3, k5, h⟩ := z06 h
    rcases iteE h with ⟨k6, h⟩ | ⟨k6, h⟩
    ·obtain rfl := retE h
     exact fin (ok X) 1 (.c (zbf v3) :: bT 3 [.i (a1.Kids.length : Int), .b true, .b true]) (pA (zey (X := X) k5) (pR 3 k6 (pA (lm z0w a1.Kids) (pA k6 (pA k6 pT))))) (by kernel_rfl)
    ·obtain rfl := retE h
     exact fin (ok X) 1 (.c (zbf v3) :: bF 5 []) (pA (zey (X := X) k5) (pR 5 k6 pT)) (by kernel_rfl)
   ·rcases iteE h with ⟨k7, h⟩ | ⟨k7, h⟩
    ·obtain ⟨v4, k8, h⟩ := z06 h
     obtain ⟨v5, k9, h⟩ := z06 h
     refine adv (ok X) 4 [.b true, .o [0, 1, 2, 3, 4, 5, 6, 7, 8, 9, 10, 11], .e (z0d v4), .e (z0d v5)] (pA k7 (pA (ixr z42 k8) (pA (ixr z42 k9) pT))) (by kernel_rfl) ?_
     refine jn (ok X) 1 (fun (j3 : (Bool × Bool × Int × Int × (List ByteArray))) => ⟨80, 2, [(2, [xP 2 0]), (3, [xP 3 0]), (5, [xP 5 0])], [oB 135 [.row 1, .pv (.bool j3.1), .pv (.bool j3.2.1), .pv (.int .i64 j3.2.2.1), .pv (.int .i64 j3.2.2.2.1)], oR true 9 1 (List.map z0v j3.2.2.2.2), oB 133 [.box 0 0], oB 103 (bs (z0d a1)), none, oB 103 (bs (z0d v5))]⟩) h (fun j3 h => ?_) (fun j3 h => ?_)
     ·obtain ⟨v6, k10, h⟩ := z06 h
      rcases iteE h with ⟨k11, h⟩ | ⟨k11, h⟩
      ·obtain ⟨v7, k12, h⟩ := z06 h
       obtain ⟨v8, k13, h⟩ := z06 h
       obtain rfl := retE h
       exact fin (ok X) 1 (.o [0, 1, 2, 3, 4, 5, 6, 7, 8, 9, 10, 11] :: .c (z8y v6) :: bT 3 [.c (z8y v7), .b true, .s (z3d v8) (z3e v8)]) (pA (zaw (X := X) k10) (pR 3 k11 (pA (zaw (X := X) k12) (pA k11 (pA (ih_ast_writer_kid _ _ _ _ k13) pT))))) (by kernel_rfl)
      ·obtain ⟨v9, k14, h⟩ := z06 h
       obtain rfl := retE h
       exact fin (ok X) 1 (.o [0, 1, 2, 3, 4, 5, 6, 7, 8, 9, 10, 11] :: .c (z8y v6) :: bF 4 [.s (z3d v9) (z3e v9)]) (pA (zaw (X := X) k10) (pR 4 k11 (pA (ih_ast_writer_kid _ _ _ _ k14) pT))) (by kernel_rfl)
     ·obtain ⟨v10, k15, h⟩ := z06 h
      obtain ⟨v11, k16, h⟩ := z06 h
      refine adv (ok X) 2 [.o [0, 1, 2, 3, 4, 5, 6, 7], .e [.str v10], .s (z0a v11) (z0b v11)] (pA (ixm z0v k15) (pA (z0c (X := X) k16) pT)) (by kernel_rfl) ?_
      obtain ⟨v12, k17, h⟩ := z06 h
      rcases iteE h with ⟨k18, h⟩ | ⟨k18, h⟩
      ·obtain ⟨v13, k19, h⟩ := z06 h
       obtain rfl := retE h
       exact fin (ok X) 2 (.o [0, 1, 2, 3, 4, 5, 6, 7, 8, 9, 10, 11, 12, 13, 14, 15, 16] :: .c (z8y v12) :: bT 7 [.s (z3d v13) (z3e v13)]) (pA (zaw (X := X) k17) (pR 7 k18 (pA (ih_ast_writer_kid _ _ _ _ k19) pT))) (by kernel_rfl)
      ·obtain ⟨v14, k20, h⟩ := z06 h
       rcases iteE h with ⟨k21, h⟩ | ⟨k21, h⟩
       ·obtain ⟨v15, k22, h⟩ := z06 h
        obtain ⟨v16, k23, h⟩ := z06 h
        obtain rfl := retE h
        exact fin (ok X) 2 (.o [0, 1, 2, 3, 4, 5, 6, 7, 8, 9, 10, 11, 12, 13, 14, 15, 16] :: .c (z8y v12) :: bF 3 (.c (z8y v14) :: .b false :: .b false :: bT 3 [.c (zbf v15), .b false, .b true, .b false, .s (z3d v16) (z3e v16)])) (pA (zaw (X := X) k17) (pR 3 k18 (pA (zaw (X := X) k20) (pA k18 (pA k18 (pR 3 k21 (pA (zey (X := X) k22) (pA k18 (pA k21 (pA k18 (pA (ih_ast_writer_kid _ _ _ _ k23) pT))))))))))) (by kernel_rfl)
       ·obtain ⟨v17, k24, h⟩ := z06 h
        obtain rfl := retE h
        exact fin (ok X) 2 (.o [0, 1, 2, 3, 4, 5, 6, 7, 8, 9, 10, 11, 12, 13, 14, 15, 16] :: .c (z8y v12) :: bF 3 (.c (z8y v14) :: bF 8 [.s (z3d v17) (z3e v17)])) (pA (zaw (X := X) k17) (pR 3 k18 (pA (zaw (X := X) k20) (pA k18 (pA k18 (pR 3 k21 (pA k18 (pA k21 (pA k18 (pA (ih_ast_writer_kid _ _ _ _ k24) pT)))))))))) (by kernel_rfl)
    ·obtain ⟨v18, k25, h⟩ := z06 h
     obtain rfl := retE h
     exact fin (ok X) 3 [.b false, .s (zcj v18) (zck v18)] (pA k7 (pA (zhp (X := X) k25) pT)) (by kernel_rfl)

theorem z8t {n : Nat} (ih_ast_writer_expr : ∀ (a0 : z01) (a1 : z04) (r : z01), z1w n a0 a1 = some r → Cs Tryz.prog (GX X) 125 [xP 0 0, .agg (bs (z0d a1))] [oB 135 [.row 1, .pv (.bool a0.f_form), .pv (.bool a0.f_deep), .pv (.int .i64 a0.f_blocks), .pv (.int .i64 a0.f_parens)], oR false 9 1 (List.map z0v a0.f_out)] (z2p r) (z2q r)) (ih_ast_writer_deeper_ast_writer_expr_1 : ∀ (a0 : z01) (a1011 : z04) (r : z01), z0r n a0 a1011 = some r → Cs Tryz.prog (GX X) 144 [xP 0 0, .fn (.func 145) [] [.box 2 0, .box 3 0]] [oB 135 [.row 1, .pv (.bool a0.f_form), .pv (.bool a0.f_deep), .pv (.int .i64 a0.f_blocks), .pv (.int .i64 a0.f_parens)], oR false 9 1 (List.map z0v a0.f_out), oB 133 [.box 0 0], oB 103 (bs (z0d a1011))] (z1d r) (z1e a1011 r)) (ih_ast_writer_kid : ∀ (a0 : z01) (a1 : z04) (a2 : Bool) (r : z01), z1y n a0 a1 a2 = some r → Cs Tryz.prog (GX X) 146 [xP 0 0, .agg (bs (z0d a1)), xB a2] [oB 135 [.row 1, .pv (.bool a0.f_form), .pv (.bool a0.f_deep), .pv (.int .i64 a0.f_blocks), .pv (.int .i64 a0.f_parens)], oR false 9 1 (List.map z0v a0.f_out)] (z3d r) (z3e r)) (ih_ast_writer_expr_1 : ∀ (a0 : z01) (a1 : z04) (r : z01), z2x n a0 a1 = some r → Cs Tryz.prog (GX X) 145 [xP 0 0, xP 3 0] [oB 133 [.box 1 0], oB 135 [.row 2, .pv (.bool a0.f_form), .pv (.bool a0.f_deep), .pv (.int .i64 a0.f_blocks), .pv (.int .i64 a0.f_parens)], oR false 9 1 (List.map z0v a0.f_out), oB 103 (bs (z0d a1))] (z4f r) (z4g a1 r)) (ih_ast_writer_deeper_ast_writer_kid_1 : ∀ (a0 : z01) (a1011 : z04) (r : z01), z0u n a0 a1011 = some r → Cs Tryz.prog (GX X) 144 [xP 0 0, .fn (.func 166) [] [.box 2 0, .box 3 0]] [oB 135 [.row 1, .pv (.bool a0.f_form), .pv (.bool a0.f_deep), .pv (.int .i64 a0.f_blocks), .pv (.int .i64 a0.f_parens)], oR false 9 1 (List.map z0v a0.f_out), oB 133 [.box 0 0], oB 103 (bs (z0d a1011))] (z1g r) (z1h a1011 r)) (ih_ast_writer_kid_1 : ∀ (a0 : z01) (a1 : z04) (r : z01), z34 n a0 a1 = some r → Cs Tryz.prog (GX X) 166 [xP 0 0, xP 3 0] [oB 133 [.box 1 0], oB 135 [.row 2, .pv (.bool a0.f_form), .pv (.bool a0.f_deep), .pv (.int .i64 a0.f_blocks), .pv (.int .i64 a0.f_parens)], oR false 9 1 (List.map z0v a0.f_out), oB 103 (bs (z0d a1))] (z4k r) (z4l a1 r)) (a0 : z01) (a1011 : z04) (r : z01) (h : z0r (n + 1) a0 a1011 = some r) : Cs Tryz.prog (GX X) 144 [xP 0 0, .fn (.func 145) [] [.box 2 0, .box 3 0]] [oB 135 [.row 1, .pv (.bool a0.f_form), .pv (.bool a0.f_deep), .pv (.int .i64 a0.f_blocks), .pv (.int .i64 a0.f_parens)], oR false 9 1 (List.map z0v a0.f_out), oB 133 [.box 0 0], oB 103 (bs (z0d a1011))] (z1d r) (z1e a1011 r) := by
 refine fnT (cx := cx X) Tryz.f144 Tryz.call144 Tryz.func144 (by kernel_rfl) ?_
 rw [z0r] at h
 refine adv (ok X) 3 [] pT (by kernel_rfl) ?_
 refine jn (ok X) 1 (fun (j1 : Bool) => ⟨34, 4, [(0, [xP 0 0]), (1, [.fn (.func 145) [] [.box 2 0, .box 3 0]])], [oB 135 [.row 1, .pv (.bool a0.f_form), .pv (.bool j1), .pv (.int .i64 a0.f_blocks), .pv (.int .i64 (IntKind.i64.wrap (a0.f_parens + 1)))], oR false 9 1 (List.map z0v a0.f_out), oB 133 [.box 0 0], oB 103 (bs (z0d a1011))]⟩) h (fun j1 h => ?_) (fun j1 h => ?_)
 ·rcases iteE h with ⟨k1, h⟩ | ⟨k1, h⟩
  ·obtain rfl := retE h
   exact fin (ok X) 1 (bT 6 []) (pR 6 k1 pT) (by kernel_rfl)
  ·obtain rfl := retE h
   exact fin (ok X) 1 (bF 6 []) (pR 6 k1 pT) (by kernel_rfl)
 ·obtain ⟨v1, k2, h⟩ := z06 h
  obtain rfl := retE h
  exact fin (ok X) 3 [.s (z4f v1) (z4g a1011 v1)] (pA (ih_ast_writer_expr_1 _ _ _ k2) pT) (by kernel_rfl)

theorem zia {n : Nat} (ih_ast_writer_expr : ∀ (a0 : z01) (a1 : z04) (r : z01), z1w n a0 a1 = some r → Cs Tryz.prog (GX X) 125 [xP 0 0, .agg (bs (z0d a1))] [oB 135 [.row 1, .pv (.bool a0.f_form), .pv (.bool a0.f_deep), .pv (.int .i64 a0.f_blocks), .pv (.int .i64 a0.f_parens)], oR false 9 1 (List.map z0v a0.f_out)] (z2p r) (z2q r)) (ih_ast_writer_deeper_ast_writer_expr_1 : ∀ (a0 : z01) (a1011 : z04) (r : z01), z0r n a0 a1011 = some r → Cs Tryz.prog (GX X) 144 [xP 0 0, .fn (.func 145) [] [.box 2 0, .box 3 0]] [oB 135 [.row 1, .pv (.bool a0.f_form), .pv (.bool a0.f_deep), .pv (.int .i64 a0.f_blocks), .pv (.int .i64 a0.f_parens)], oR false 9 1 (List.map z0v a0.f_out), oB 133 [.box 0 0], oB 103 (bs (z0d a1011))] (z1d r) (z1e a1011 r)) (ih_ast_writer_kid : ∀ (a0 : z01) (a1 : z04) (a2 : Bool) (r : z01), z1y n a0 a1 a2 = some r → Cs Tryz.prog (GX X) 146 [xP 0 0, .agg (bs (z0d a1)), xB a2] [oB 135 [.row 1, .pv (.bool a0.f_form), .pv (.bool a0.f_deep), .pv (.int .i64 a0.f_blocks), .pv (.int .i64 a0.f_parens)], oR false 9 1 (List.map z0v a0.f_out)] (z3d r) (z3e r)) (ih_ast_writer_expr_1 : ∀ (a0 : z01) (a1 : z04) (r : z01), z2x n a0 a1 = some r → Cs Tryz.prog (GX X) 145 [xP 0 0, xP 3 0] [oB 133 [.box 1 0], oB 135 [.row 2, .pv (.bool a0.f_form), .pv (.bool a0.f_deep), .pv (.int .i64 a0.f_blocks), .pv (.int .i64 a0.f_parens)], oR false 9 1 (List.map z0v a0.f_out), oB 103 (bs (z0d a1))] (z4f r) (z4g a1 r)) (ih_ast_writer_deeper_ast_writer_kid_1 : ∀ (a0 : z01) (a1011 : z04) (r : z01), z0u n a0 a1011 = some r → Cs Tryz.prog (GX X) 144 [xP 0 0, .fn (.func 166) [] [.box 2 0, .box 3 0]] [oB 135 [.row 1, .pv (.bool a0.f_form), .pv (.bool a0.f_deep), .pv (.int .i64 a0.f_blocks), .pv (.int .i64 a0.f_parens)], oR false 9 1 (List.map z0v a0.f_out), oB 133 [.box 0 0], oB 103 (bs (z0d a1011))] (z1g r) (z1h a1011 r)) (ih_ast_writer_kid_1 : ∀ (a0 : z01) (a1 : z04) (r : z01), z34 n a0 a1 = some r → Cs Tryz.prog (GX X) 166 [xP 0 0, xP 3 0] [oB 133 [.box 1 0], oB 135 [.row 2, .pv (.bool a0.f_form), .pv (.bool a0.f_deep), .pv (.int .i64 a0.f_blocks), .pv (.int .i64 a0.f_parens)], oR false 9 1 (List.map z0v a0.f_out), oB 103 (bs (z0d a1))] (z4k r) (z4l a1 r)) (a0 : z01) (a1 : z04) (a2 : Bool) (r : z01) (h : z1y (n + 1) a0 a1 a2 = some r) : Cs Tryz.prog (GX X) 146 [xP 0 0, .agg (bs (z0d a1)), xB a2] [oB 135 [.row 1, .pv (.bool a0.f_form), .pv (.bool a0.f_deep), .pv (.int .i64 a0.f_blocks), .pv (.int .i64 a0.f_parens)], oR false 9 1 (List.map z0v a0.f_out)] (z3d r) (z3e r) := by
 refine fnT (cx := cx X) Tryz.f146 Tryz.call146 Tryz.func146 (by kernel_rfl) ?_
 rw [z1y] at h
 rcases iteE h with ⟨k1, h⟩ | ⟨k1, h⟩
 ·obtain ⟨v1, k2, h⟩ := z06 h
  obtain rfl := retE h
  exact fin (ok X) 9 [.b true, .s (z2p v1) (z2q v1)] (pA k1 (pA (ih_ast_writer_expr _ _ _ k2) pT)) (by kernel_rfl)
 ·obtain ⟨v2, k3, h⟩ := z06 h
  obtain ⟨v3, k4, h⟩ := z06 h
  obtain ⟨v4, k5, h⟩ := z06 h
  obtain rfl := retE h
  exact fin (ok X) 12 [.b false, .s (z0a v2) (z0b v2), .s (z1g v3) (z1h a1 v3), .s (z0a v4) (z0b v4)] (pA k1 (pA (z0c (X := X) k3) (pA (ih_ast_writer_deeper_ast_writer_kid_1 _ _ _ k4) (pA (z0c (X := X) k5) pT)))) (by kernel_rfl)

theorem zfv {n : Nat} (ih_ast_writer_expr : ∀ (a0 : z01) (a1 : z04) (r : z01), z1w n a0 a1 = some r → Cs Tryz.prog (GX X) 125 [xP 0 0, .agg (bs (z0d a1))] [oB 135 [.row 1, .pv (.bool a0.f_form), .pv (.bool a0.f_deep), .pv (.int .i64 a0.f_blocks), .pv (.int .i64 a0.f_parens)], oR false 9 1 (List.map z0v a0.f_out)] (z2p r) (z2q r)) (ih_ast_writer_deeper_ast_writer_expr_1 : ∀ (a0 : z01) (a1011 : z04) (r : z01), z0r n a0 a1011 = some r → Cs Tryz.prog (GX X) 144 [xP 0 0, .fn (.func 145) [] [.box 2 0, .box 3 0]] [oB 135 [.row 1, .pv (.bool a0.f_form), .pv (.bool a0.f_deep), .pv (.int .i64 a0.f_blocks), .pv (.int .i64 a0.f_parens)], oR false 9 1 (List.map z0v a0.f_out), oB 133 [.box 0 0], oB 103 (bs (z0d a1011))] (z1d r) (z1e a1011 r)) (ih_ast_writer_kid : ∀ (a0 : z01) (a1 : z04) (a2 : Bool) (r : z01), z1y n a0 a1 a2 = some r → Cs Tryz.prog (GX X) 146 [xP 0 0, .agg (bs (z0d a1)), xB a2] [oB 135 [.row 1, .pv (.bool a0.f_form), .pv (.bool a0.f_deep), .pv (.int .i64 a0.f_blocks), .pv (.int .i64 a0.f_parens)], oR false 9 1 (List.map z0v a0.f_out)] (z3d r) (z3e r)) (ih_ast_writer_expr_1 : ∀ (a0 : z01) (a1 : z04) (r : z01), z2x n a0 a1 = some r → Cs Tryz.prog (GX X) 145 [xP 0 0, xP 3 0] [oB 133 [.box 1 0], oB 135 [.row 2, .pv (.bool a0.f_form), .pv (.bool a0.f_deep), .pv (.int .i64 a0.f_blocks), .pv (.int .i64 a0.f_parens)], oR false 9 1 (List.map z0v a0.f_out), oB 103 (bs (z0d a1))] (z4f r) (z4g a1 r)) (ih_ast_writer_deeper_ast_writer_kid_1 : ∀ (a0 : z01) (a1011 : z04) (r : z01), z0u n a0 a1011 = some r → Cs Tryz.prog (GX X) 144 [xP 0 0, .fn (.func 166) [] [.box 2 0, .box 3 0]] [oB 135 [.row 1, .pv (.bool a0.f_form), .pv (.bool a0.f_deep), .pv (.int .i64 a0.f_blocks), .pv (.int .i64 a0.f_parens)], oR false 9 1 (List.map z0v a0.f_out), oB 133 [.box 0 0], oB 103 (bs (z0d a1011))] (z1g r) (z1h a1011 r)) (ih_ast_writer_kid_1 : ∀ (a0 : z01) (a1 : z04) (r : z01), z34 n a0 a1 = some r → Cs Tryz.prog (GX X) 166 [xP 0 0, xP 3 0] [oB 133 [.box 1 0], oB 135 [.row 2, .pv (.bool a0.f_form), .pv (.bool a0.f_deep), .pv (.int .i64 a0.f_blocks), .pv (.int .i64 a0.f_parens)], oR false 9 1 (List.map z0v a0.f_out), oB 103 (bs (z0d a1))] (z4k r) (z4l a1 r)) (a0 : z01) (a1 : z04) (r : z01) (h : z2x (n + 1) a0 a1 = some r) : Cs Tryz.prog (GX X) 145 [xP 0 0, xP 3 0] [oB 133 [.box 1 0], oB 135 [.row 2, .pv (.bool a0.f_form), .pv (.bool a0.f_deep), .pv (.int .i64 a0.f_blocks), .pv (.int .i64 a0.f_parens)], oR false 9 1 (List.map z0v a0.f_out), oB 103 (bs (z0d a1))] (z4f r) (z4g a1 r) := by
 refine fnT (cx := cx X) Tryz.f145 Tryz.call145 Tryz.func145 (by kernel_rfl) ?_
 rw [z2x] at h
 obtain ⟨v1, k1, h⟩ := z06 h
 obtain ⟨v2, k2, h⟩ := z06 h
 obtain ⟨v3, k3, h⟩ := z06 h
 obtain rfl := retE h
 exact fin (ok X) 1 [.o [0, 1, 2, 3, 4, 5, 6, 7, 8, 9, 10, 11], .e (z0d v1), .e (z0d v1), .c (zbf v2), .s (z3d v3) (z3e v3)] (pA (ixr z42 k1) (pA (ixr z42 k1) (pA (zey (X := X) k2) (pA (ih_ast_writer_kid _ _ _ _ k3) pT)))) (by kernel_rfl)

theorem z8z {n : Nat} (ih_ast_writer_expr : ∀ (a0 : z01) (a1 : z04) (r : z01), z1w n a0 a1 = some r → Cs Tryz.prog (GX X) 125 [xP 0 0, .agg (bs (z0d a1))] [oB 135 [.row 1, .pv (.bool a0.f_form), .pv (.bool a0.f_deep), .pv (.int .i64 a0.f_blocks), .pv (.int .i64 a0.f_parens)], oR false 9 1 (List.map z0v a0.f_out)] (z2p r) (z2q r)) (ih_ast_writer_deeper_ast_writer_expr_1 : ∀ (a0 : z01) (a1011 : z04) (r : z01), z0r n a0 a1011 = some r → Cs Tryz.prog (GX X) 144 [xP 0 0, .fn (.func 145) [] [.box 2 0, .box 3 0]] [oB 135 [.row 1, .pv (.bool a0.f_form), .pv (.bool a0.f_deep), .pv (.int .i64 a0.f_blocks), .pv (.int .i64 a0.f_parens)], oR false 9 1 (List.map z0v a0.f_out), oB 133 [.box 0 0], oB 103 (bs (z0d a1011))] (z1d r) (z1e a1011 r)) (ih_ast_writer_kid : ∀ (a0 : z01) (a1 : z04) (a2 : Bool) (r : z01), z1y n a0 a1 a2 = some r → Cs Tryz.prog (GX X) 146 [xP 0 0, .agg (bs (z0d a1)), xB a2] [oB 135 [.row 1, .pv (.bool a0.f_form), .pv (.bool a0.f_deep), .pv (.int .i64 a0.f_blocks), .pv (.int .i64 a0.f_parens)], oR false 9 1 (List.map z0v a0.f_out)] (z3d r) (z3e r)) (ih_ast_writer_expr_1 : ∀ (a0 : z01) (a1 : z04) (r : z01), z2x n a0 a1 = some r → Cs Tryz.prog (GX X) 145 [xP 0 0, xP 3 0] [oB 133 [.box 1 0], oB 135 [.row 2, .pv (.bool a0.f_form), .pv (.bool a0.f_deep), .pv (.int .i64 a0.f_blocks), .pv (.int .i64 a0.f_parens)], oR false 9 1 (List.map z0v a0.f_out), oB 103 (bs (z0d a1))] (z4f r) (z4g a1 r)) (ih_ast_writer_deeper_ast_writer_kid_1 : ∀ (a0 : z01) (a1011 : z04) (r : z01), z0u n a0 a1011 = some r → Cs Tryz.prog (GX X) 144 [xP 0 0, .fn (.func 166) [] [.box 2 0, .box 3 0]] [oB 135 [.row 1, .pv (.bool a0.f_form), .pv (.bool a0.f_deep), .pv (.int .i64 a0.f_blocks), .pv (.int .i64 a0.f_parens)], oR false 9 1 (List.map z0v a0.f_out), oB 133 [.box 0 0], oB 103 (bs (z0d a1011))] (z1g r) (z1h a1011 r)) (ih_ast_writer_kid_1 : ∀ (a0 : z01) (a1 : z04) (r : z01), z34 n a0 a1 = some r → Cs Tryz.prog (GX X) 166 [xP 0 0, xP 3 0] [oB 133 [.box 1 0], oB 135 [.row 2, .pv (.bool a0.f_form), .pv (.bool a0.f_deep), .pv (.int .i64 a0.f_blocks), .pv (.int .i64 a0.f_parens)], oR false 9 1 (List.map z0v a0.f_out), oB 103 (bs (z0d a1))] (z4k r) (z4l a1 r)) (a0 : z01) (a1011 : z04) (r : z01) (h : z0u (n + 1) a0 a1011 = some r) : Cs Tryz.prog (GX X) 144 [xP 0 0, .fn (.func 166) [] [.box 2 0, .box 3 0]] [oB 135 [.row 1, .pv (.bool a0.f_form), .pv (.bool a0.f_deep), .pv (.int .i64 a0.f_blocks), .pv (.int .i64 a0.f_parens)], oR false 9 1 (List.map z0v a0.f_out), oB 133 [.box 0 0], oB 103 (bs (z0d a1011))] (z1g r) (z1h a1011 r) := by
 refine fnT (cx := cx X) Tryz.f144 Tryz.call144 Tryz.func144 (by kernel_rfl) ?_
 rw [z0u] at h
 refine adv (ok X) 3 [] pT (by kernel_rfl) ?_
 refine jn (ok X) 1 (fun (j1 : Bool) => ⟨34, 4, [(0, [xP 0 0]), (1, [.fn (.func 166) [] [.box 2 0, .box 3 0]])], [oB 135 [.row 1, .pv (.bool a0.f_form), .pv (.bool j1), .pv (.int .i64 a0.f_blocks), .pv (.int .i64 (IntKind.i64.wrap (a0.f_parens + 1)))], oR false 9 1 (List.map z0v a0.f_out), oB 133 [.box 0 0], oB 103 (bs (z0d a1011))]⟩) h (fun j1 h => ?_) (fun j1 h => ?_)
 ·rcases iteE h with ⟨k1, h⟩ | ⟨k1, h⟩
  ·obtain rfl := retE h
   exact fin (ok X) 1 (bT 6 []) (pR 6 k1 pT) (by kernel_rfl)
  ·obtain rfl := retE h
   exact fin (ok X) 1 (bF 6 []) (pR 6 k1 pT) (by kernel_rfl)
 ·obtain ⟨v1, k2, h⟩ := z06 h
  obtain rfl := retE h
  exact fin (ok X) 3 [.s (z4k v1) (z4l a1011 v1)] (pA (ih_ast_writer_kid_1 _ _ _ k2) pT) (by kernel_rfl)

theorem zgs {n : Nat} (ih_ast_writer_expr : ∀ (a0 : z01) (a1 : z04) (r : z01), z1w n a0 a1 = some r → Cs Tryz.prog (GX X) 125 [xP 0 0, .agg (bs (z0d a1))] [oB 135 [.row 1, .pv (.bool a0.f_form), .pv (.bool a0.f_deep), .pv (.int .i64 a0.f_blocks), .pv (.int .i64 a0.f_parens)], oR false 9 1 (List.map z0v a0.f_out)] (z2p r) (z2q r)) (ih_ast_writer_deeper_ast_writer_expr_1 : ∀ (a0 : z01) (a1011 : z04) (r : z01), z0r n a0 a1011 = some r → Cs Tryz.prog (GX X) 144 [xP 0 0, .fn (.func 145) [] [.box 2 0, .box 3 0]] [oB 135 [.row 1, .pv (.bool a0.f_form), .pv (.bool a0.f_deep), .pv (.int .i64 a0.f_blocks), .pv (.int .i64 a0.f_parens)], oR false 9 1 (List.map z0v a0.f_out), oB 133 [.box 0 0], oB 103 (bs (z0d a1011))] (z1d r) (z1e a1011 r)) (ih_ast_writer_kid : ∀ (a0 : z01) (a1 : z04) (a2 : Bool) (r : z01), z1y n a0 a1 a2 = some r → Cs Tryz.prog (GX X) 146 [xP 0 0, .agg (bs (z0d a1)), xB a2] [oB 135 [.row 1, .pv (.bool a0.f_form), .pv (.bool a0.f_deep), .pv (.int .i64 a0.f_blocks), .pv (.int .i64 a0.f_parens)], oR false 9 1 (List.map z0v a0.f_out)] (z3d r) (z3e r)) (ih_ast_writer_expr_1 : ∀ (a0 : z01) (a1 : z04) (r : z01), z2x n a0 a1 = some r → Cs Tryz.prog (GX X) 145 [xP 0 0, xP 3 0] [oB 133 [.box 1 0], oB 135 [.row 2, .pv (.bool a0.f_form), .pv (.bool a0.f_deep), .pv (.int .i64 a0.f_blocks), .pv (.int .i64 a0.f_parens)], oR false 9 1 (List.map z0v a0.f_out), oB 103 (bs (z0d a1))] (z4f r) (z4g a1 r)) (ih_ast_writer_deeper_ast_writer_kid_1 : ∀ (a0 : z01) (a1011 : z04) (r : z01), z0u n a0 a1011 = some r → Cs Tryz.prog (GX X) 144 [xP 0 0, .fn (.func 166) [] [.box 2 0, .box 3 0]] [oB 135 [.row 1, .pv (.bool a0.f_form), .pv (.bool a0.f_deep), .pv (.int .i64 a0.f_blocks), .pv (.int .i64 a0.f_parens)], oR false 9 1 (List.map z0v a0.f_out), oB 133 [.box 0 0], oB 103 (bs (z0d a1011))] (z1g r) (z1h a1011 r)) (ih_ast_writer_kid_1 : ∀ (a0 : z01) (a1 : z04) (r : z01), z34 n a0 a1 = some r → Cs Tryz.prog (GX X) 166 [xP 0 0, xP 3 0] [oB 133 [.box 1 0], oB 135 [.row 2, .pv (.bool a0.f_form), .pv (.bool a0.f_deep), .pv (.int .i64 a0.f_blocks), .pv (.int .i64 a0.f_parens)], oR false 9 1 (List.map z0v a0.f_out), oB 103 (bs (z0d a1))] (z4k r) (z4l a1 r)) (a0 : z01) (a1 : z04) (r : z01) (h : z34 (n + 1) a0 a1 = some r) : Cs Tryz.prog (GX X) 166 [xP 0 0, xP 3 0] [oB 133 [.box 1 0], oB 135 [.row 2, .pv (.bool a0.f_form), .pv (.bool a0.f_deep), .pv (.int .i64 a0.f_blocks), .pv (.int .i64 a0.f_parens)], oR false 9 1 (List.map z0v a0.f_out), oB 103 (bs (z0d a1))] (z4k r) (z4l a1 r) := by
 refine fnT (cx := cx X) Tryz.f166 Tryz.call166 Tryz.func166 (by kernel_rfl) ?_
 rw [z34] at h
 obtain ⟨v1, k1, h⟩ := z06 h
 obtain rfl := retE h
 exact fin (ok X) 1 [.s (z2p v1) (z2q v1)] (pA (ih_ast_writer_expr _ _ _ k1) pT) (by kernel_rfl)

theorem zbu : ∀ n : Nat, (∀ (a0 : z01) (a1 : z04) (r : z01), z1w n a0 a1 = some r → Cs Tryz.prog (GX X) 125 [xP 0 0, .agg (bs (z0d a1))] [oB 135 [.row 1, .pv (.bool a0.f_form), .pv (.bool a0.f_deep), .pv (.int .i64 a0.f_blocks), .pv (.int .i64 a0.f_parens)], oR false 9 1 (List.map z0v a0.f_out)] (z2p r) (z2q r)) ∧ (∀ (a0 : z01) (a1011 : z04) (r : z01), z0r n a0 a1011 = some r → Cs Tryz.prog (GX X) 144 [xP 0 0, .fn (.func 145) [] [.box 2 0, .box 3 0]] [oB 135 [.row 1, .pv (.bool a0.f_form), .pv (.bool a0.f_deep), .pv (.int .i64 a0.f_blocks), .pv (.int .i64 a0.f_parens)], oR false 9 1 (List.map z0v a0.f_out), oB 133 [.box 0 0], oB 103 (bs (z0d a1011))] (z1d r) (z1e a1011 r)) ∧ (∀ (a0 : z01) (a1 : z04) (a2 : Bool) (r : z01), z1y n a0 a1 a2 = some r → Cs Tryz.prog (GX X) 146 [xP 0 0, .agg (bs (z0d a1)), xB a2] [oB 135 [.row 1, .pv (.bool a0.f_form), .pv (.bool a0.f_deep), .pv (.int .i64 a0.f_blocks), .pv (.int .i64 a0.f_parens)], oR false 9 1 (List.map z0v a0.f_out)] (z3d r) (z3e r)) ∧ (∀ (a0 : z01) (a1 : z04) (r : z01), z2x n a0 a1 = some r → Cs Tryz.prog (GX X) 145 [xP 0 0, xP 3 0] [oB 133 [.box 1 0], oB 135 [.row 2, .pv (.bool a0.f_form), .pv (.bool a0.f_deep), .pv (.int .i64 a0.f_blocks), .pv (.int .i64 a0.f_parens)], oR false 9 1 (List.map z0v a0.f_out), oB 103 (bs (z0d a1))] (z4f r) (z4g a1 r)) ∧ (∀ (a0 : z01) (a1011 : z04) (r : z01), z0u n a0 a1011 = some r → Cs Tryz.prog (GX X) 144 [xP 0 0, .fn (.func 166) [] [.box 2 0, .box 3 0]] [oB 135 [.row 1, .pv (.bool a0.f_form), .pv (.bool a0.f_deep), .pv (.int .i64 a0.f_blocks), .pv (.int .i64 a0.f_parens)], oR false 9 1 (List.map z0v a0.f_out), oB 133 [.box 0 0], oB 103 (bs (z0d a1011))] (z1g r) (z1h a1011 r)) ∧ (∀ (a0 : z01) (a1 : z04) (r : z01), z34 n a0 a1 = some r → Cs Tryz.prog (GX X) 166 [xP 0 0, xP 3 0] [oB 133 [.box 1 0], oB 135 [.row 2, .pv (.bool a0.f_form), .pv (.bool a0.f_deep), .pv (.int .i64 a0.f_blocks), .pv (.int .i64 a0.f_parens)], oR false 9 1 (List.map z0v a0.f_out), oB 103 (bs (z0d a1))] (z4k r) (z4l a1 r))
 | 0 => ⟨(fun _ _ _ h => by rw [z1w] at h; cases h), (fun _ _ _ h => by rw [z0r] at h; cases h), (fun _ _ _ _ h => by rw [z1y] at h; cases h), (fun _ _ _ h => by rw [z2x] at h; cases h), (fun _ _ _ h => by rw [z0u] at h; cases h), (fun _ _ _ h => by rw [z34] at h; cases h)⟩
 | n + 1 => by
  have ih := zbu n
  exact ⟨zhq ih.1 ih.2.1 ih.2.2.1 ih.2.2.2.1 ih.2.2.2.2.1 ih.2.2.2.2.2, z8t ih.1 ih.2.1 ih.2.2.1 ih.2.2.2.1 ih.2.2.2.2.1 ih.2.2.2.2.2, zia ih.1 ih.2.1 ih.2.2.1 ih.2.2.2.1 ih.2.2.2.2.1 ih.2.2.2.2.2, zfv ih.1 ih.2.1 ih.2.2.1 ih.2.2.2.1 ih.2.2.2.2.1 ih.2.2.2.2.2, z8z ih.1 ih.2.1 ih.2.2.1 ih.2.2.2.1 ih.2.2.2.2.1 ih.2.2.2.2.2, zgs ih.1 ih.2.1 ih.2.2.1 ih.2.2.2.1 ih.2.2.2.2.1 ih.2.2.2.2.2⟩

theorem z7a {a0 : z01} {a1 : z04} {r : z01} (h : z6i a0 a1 = some r) : Cs Tryz.prog (GX X) 125 [xP 0 0, .agg (bs (z0d a1))] [oB 135 [.row 1, .pv (.bool a0.f_form), .pv (.bool a0.f_deep), .pv (.int .i64 a0.f_blocks), .pv (.int .i64 a0.f_parens)], oR false 9 1 (List.map z0v a0.f_out)] (z2p r) (z2q r) := by
 obtain ⟨n, hn⟩ := unfE h
 exact (zbu n).1 _ _ _ hn

theorem zag {a0 : z01} {a1 : z31} {r : z01} (h : z6j a0 a1 = some r) : Cs Tryz.prog (GX X) 126 [xP 0 0, .agg (bs (z9j a1))] [oB 135 [.row 1, .pv (.bool a0.f_form), .pv (.bool a0.f_deep), .pv (.int .i64 a0.f_blocks), .pv (.int .i64 a0.f_parens)], oR false 9 1 (List.map z0v a0.f_out)] (z8h r) (z8i r) := by
 refine fnT (cx := cx X) Tryz.f126 Tryz.call126 Tryz.func126 (by kernel_rfl) ?_
 unfold z6j at h
 obtain ⟨v1, k1, h⟩ := z06 h
 obtain ⟨v2, k2, h⟩ := z06 h
 refine adv (ok X) 8 [.s (z0a v1) (z0b v1), .s (z2p v2) (z2q v2)] (pA (z0c (X := X) k1) (pA (z7a (X := X) k2) pT)) (by kernel_rfl) ?_
 refine jn (ok X) 1 (fun (j1 : Bool) => ⟨36, 2, [(0, [xP 0 0]), (3, [xP 2 0]), (18, [xB j1])], [oB 135 [.row 1, .pv (.bool v2.f_form), .pv (.bool v2.f_deep), .pv (.int .i64 v2.f_blocks), .pv (.int .i64 v2.f_parens)], oR true 9 1 (List.map z0v v2.f_out), oB 105 (bs (z9j a1))]⟩) h (fun j1 h => ?_) (fun j1 h => ?_)
 ·rcases iteE h with ⟨k3, h⟩ | ⟨k3, h⟩
  ·obtain rfl := retE h
   exact fin (ok X) 1 (bT 4 []) (pR 4 k3 pT) (by kernel_rfl)
  ·obtain rfl := retE h
   exact fin (ok X) 1 (bF 4 []) (pR 4 k3 pT) (by kernel_rfl)
 ·rcases iteE h with ⟨k4, h⟩ | ⟨k4, h⟩
  ·obtain ⟨v3, k5, h⟩ := z06 h
   obtain ⟨v4, k6, h⟩ := z06 h
   obtain ⟨v5, k7, h⟩ := z06 h
   obtain rfl := retE h
   exact fin (ok X) 5 [.b true, .s (z2y v3) (z2z v3), .s (z2p v4) (z2q v4), .s (z0a v5) (z0b v5)] (pA k4 (pA (z35 (X := X) k5) (pA (z7a (X := X) k6) (pA (z0c (X := X) k7) pT)))) (by kernel_rfl)
  ·obtain ⟨v6, k8, h⟩ := z06 h
   obtain ⟨v7, k9, h⟩ := z06 h
   obtain ⟨v8, k10, h⟩ := z06 h
   obtain ⟨v9, k11, h⟩ := z06 h
   obtain rfl := retE h
   exact fin (ok X) 5 [.b false, .e [.str v6], .s (z0a v7) (z0b v7), .s (z2p v8) (z2q v8), .s (z0a v9) (z0b v9)] (pA k4 (pA (ixm z0v k8) (pA (z0c (X := X) k9) (pA (z7a (X := X) k10) (pA (z0c (X := X) k11) pT))))) (by kernel_rfl)

theorem zgt {n : Nat} (ih_ast_writer_stmts : ∀ (a0 : z01) (a1 : (List z03)) (r : z01), z1x n a0 a1 = some r → Cs Tryz.prog (GX X) 89 [xP 0 0, xL (List.map z0j a1)] [oB 135 [.row 1, .pv (.bool a0.f_form), .pv (.bool a0.f_deep), .pv (.int .i64 a0.f_blocks), .pv (.int .i64 a0.f_parens)], oR false 9 1 (List.map z0v a0.f_out)] (z49 r) (z4a r)) (ih_ast_writer_stmt : ∀ (a0 : z01) (a1 : z03) (r : z01), z27 n a0 a1 = some r → Cs Tryz.prog (GX X) 110 [xP 0 0, .agg (bs (z1q a1))] [oB 135 [.row 1, .pv (.bool a0.f_form), .pv (.bool a0.f_deep), .pv (.int .i64 a0.f_blocks), .pv (.int .i64 a0.f_parens)], oR false 9 1 (List.map z0v a0.f_out)] (z5u r) (z5v r)) (ih_ast_writer_block : ∀ (a0 : z01) (a1 : (List z03)) (r : z01), z1l n a0 a1 = some r → Cs Tryz.prog (GX X) 127 [xP 0 0, xL (List.map z0j a1)] [oB 135 [.row 1, .pv (.bool a0.f_form), .pv (.bool a0.f_deep), .pv (.int .i64 a0.f_blocks), .pv (.int .i64 a0.f_parens)], oR false 9 1 (List.map z0v a0.f_out)] (z4b r) (z4c r)) (ih_ast_writer_arms : ∀ (a0 : z01) (a1 : (List z0m)) (r : z01), z2l n a0 a1 = some r → Cs Tryz.prog (GX X) 128 [xP 0 0, xL (List.map z1n a1)] [oB 135 [.row 1, .pv (.bool a0.f_form), .pv (.bool a0.f_deep), .pv (.int .i64 a0.f_blocks), .pv (.int .i64 a0.f_parens)], oR false 9 1 (List.map z0v a0.f_out)] (z5b r) (z5c r)) (a0 : z01) (a1 : (List z03)) (r : z01) (h : z1x (n + 1) a0 a1 = some r) : Cs Tryz.prog (GX X) 89 [xP 0 0, xL (List.map z0j a1)] [oB 135 [.row 1, .pv (.bool a0.f_form), .pv (.bool a0.f_deep), .pv (.int .i64 a0.f_blocks), .pv (.int .i64 a0.f_parens)], oR false 9 1 (List.map z0v a0.f_out)] (z49 r) (z4a r) := by
 refine fnT (cx := cx X) Tryz.f89 Tryz.call89 Tryz.func89 (by kernel_rfl) ?_
 rw [z1x] at h
 refine adv (ok X) 2 [.i (a1.length : Int)] (pA (lm z0j a1) pT) (by kernel_rfl) ?_
 refine lp (ok X) (z58 (z1x n) (z27 n) (z1l n) (z2l n) a1) (fun (x1 : (Int × Bool × Bool × Int × Int × (List ByteArray))) => ⟨16, 2, [(0, [xP 0 0]), (6, [xL (List.map z0j a1)]), (7, [xI (a1.length : Int)]), (8, [xI x1.1])], [oB 135 [.row 1, .pv (.bool x1.2.1), .pv (.bool x1.2.2.1), .pv (.int .i64 x1.2.2.2.1), .pv (.int .i64 x1.2.2.2.2.1)], oR true 9 1 (List.map z0v x1.2.2.2.2.2)]⟩) (fun (j1 : (Bool × Bool × Int × Int × (List ByteArray))) => ⟨16, 2, [], [oB 135 [.row 1, .pv (.bool j1.1), .pv (.bool j1.2.1), .pv (.int .i64 j1.2.2.1), .pv (.int .i64 j1.2.2.2.1)], oR true 9 1 (List.map z0v j1.2.2.2.2)]⟩) zgo (0, a0.f_form, a0.f_deep, a0.f_blocks, a0.f_parens, a0.f_out) (fun _ => ⟨_, _, _, _, rfl⟩) h (by kernel_rfl) (fun x1 o h => ?_) (fun r' h => ?_) (fun j1 h => ?_)
 ·unfold z58 at h
  rcases iteE h with ⟨k1, h⟩ | ⟨k1, h⟩
  ·obtain ⟨v1, k2, h⟩ := z06 h
   obtain ⟨v2, k3, h⟩ := z06 h
   obtain rfl := retE h
   exact fin (ok X) 12 [.b true, .e (z1q v1), .s (z5u v2) (z5v v2)] (pA k1 (pA (ixr z3l k2) (pA (ih_ast_writer_stmt _ _ _ k3) pT))) (by kernel_rfl)
  ·obtain rfl := retE h
   exact fin (ok X) 5 [.b false] (pA k1 pT) (by kernel_rfl)
 ·cases h
 ·obtain rfl := retE h
  exact fin (ok X) 0 [] pT (by kernel_rfl)

theorem zhr {n : Nat} (ih_ast_writer_stmts : ∀ (a0 : z01) (a1 : (List z03)) (r : z01), z1x n a0 a1 = some r → Cs Tryz.prog (GX X) 89 [xP 0 0, xL (List.map z0j a1)] [oB 135 [.row 1, .pv (.bool a0.f_form), .pv (.bool a0.f_deep), .pv (.int .i64 a0.f_blocks), .pv (.int .i64 a0.f_parens)], oR false 9 1 (List.map z0v a0.f_out)] (z49 r) (z4a r)) (ih_ast_writer_stmt : ∀ (a0 : z01) (a1 : z03) (r : z01), z27 n a0 a1 = some r → Cs Tryz.prog (GX X) 110 [xP 0 0, .agg (bs (z1q a1))] [oB 135 [.row 1, .pv (.bool a0.f_form), .pv (.bool a0.f_deep), .pv (.int .i64 a0.f_blocks), .pv (.int .i64 a0.f_parens)], oR false 9 1 (List.map z0v a0.f_out)] (z5u r) (z5v r)) (ih_ast_writer_block : ∀ (a0 : z01) (a1 : (List z03)) (r : z01), z1l n a0 a1 = some r → Cs Tryz.prog (GX X) 127 [xP 0 0, xL (List.map z0j a1)] [oB 135 [.row 1, .pv (.bool a0.f_form), .pv (.bool a0.f_deep), .pv (.int .i64 a0.f_blocks), .pv (.int .i64 a0.f_parens)], oR false 9 1 (List.map z0v a0.f_out)] (z4b r) (z4c r)) (ih_ast_writer_arms : ∀ (a0 : z01) (a1 : (List z0m)) (r : z01), z2l n a0 a1 = some r → Cs Tryz.prog (GX X) 128 [xP 0 0, xL (List.map z1n a1)] [oB 135 [.row 1, .pv (.bool a0.f_form), .pv (.bool a0.f_deep), .pv (.int .i64 a0.f_blocks), .pv (.int .i64 a0.f_parens)], oR false 9 1 (List.map z0v a0.f_out)] (z5b r) (z5c r)) (a0 : z01) (a1 : z03) (r : z01) (h : z27 (n + 1) a0 a1 = some r) : Cs Tryz.prog (GX X) 110 [xP 0 0, .agg (bs (z1q a1))] [oB 135 [.row 1, .pv (.bool a0.f_form), .pv (.bool a0.f_deep), .pv (.int .i64 a0.f_blocks), .pv (.int .i64 a0.f_parens)], oR false 9 1 (List.map z0v a0.f_out)] (z5u r) (z5v r) := by
 refine fnT (cx := cx X) Tryz.f110 Tryz.call110 Tryz.func110 (by kernel_rfl) ?_
 rw [z27] at h
 rcases iteE h with ⟨k1, h⟩ | ⟨k1, h⟩
 ·obtain ⟨v1, k2, h⟩ := z06 h
  obtain ⟨v2, k3, h⟩ := z06 h
  obtain ⟨v3, k4, h⟩ := z06 h
  obtain ⟨v4, k5, h⟩ := z06 h
  obtain rfl := retE h
  exact fin (ok X) 16 [.b true, .s (z1j v1) (z1k v1), .s (z0a v2) (z0b v2), .s (z2p v3) (z2q v3), .s (z0a v4) (z0b v4)] (pA k1 (pA (z1r (X := X) k2) (pA (z0c (X := X) k3) (pA (z7a (X := X) k4) (pA (z0c (X := X) k5) pT))))) (by kernel_rfl)
 ·refine adv (ok X) 10 [.b false] (pA k1 pT) (by kernel_rfl) ?_
  rcases iteE h with ⟨k6, h⟩ | ⟨k6, h⟩
  ·obtain ⟨v5, k7, h⟩ := z06 h
   obtain ⟨v6, k8, h⟩ := z06 h
   obtain ⟨v7, k9, h⟩ := z06 h
   refine adv (ok X) 9 [.b true, .s (z0a v5) (z0b v5), .s (z8h v6) (z8i v6), .s (z4b v7) (z4c v7), .i (a1.Else.length : Int)] (pA k6 (pA (z0c (X := X) k7) (pA (zag (X := X) k8) (pA (ih_ast_writer_block _ _ _ k9) (pA (lm z0j a1.Else) pT))))) (by kernel_rfl) ?_
   rcases iteE h with ⟨k10, h⟩ | ⟨k10, h⟩
   ·obtain ⟨v8, k11, h⟩ := z06 h
    obtain ⟨v9, k12, h⟩ := z06 h
    obtain rfl := retE h
    exact fin (ok X) 5 [.b true, .s (z0a v8) (z0b v8), .s (z4b v9) (z4c v9)] (pA k10 (pA (z0c (X := X) k11) (pA (ih_ast_writer_block _ _ _ k12) pT))) (by kernel_rfl)
   ·obtain rfl := retE h
    exact fin (ok X) 3 [.b false] (pA k10 pT) (by kernel_rfl)
  ·refine adv (ok X) 3 [.b false] (pA k6 pT) (by kernel_rfl) ?_
   rcases iteE h with ⟨k13, h⟩ | ⟨k13, h⟩
   ·obtain ⟨v10, k14, h⟩ := z06 h
    obtain ⟨v11, k15, h⟩ := z06 h
    obtain ⟨v12, k16, h⟩ := z06 h
    obtain rfl := retE h
    exact fin (ok X) 7 [.b true, .s (z0a v10) (z0b v10), .s (z8h v11) (z8i v11), .s (z4b v12) (z4c v12)] (pA k13 (pA (z0c (X := X) k14) (pA (zag (X := X) k15) (pA (ih_ast_writer_block _ _ _ k16) pT)))) (by kernel_rfl)
   ·refine adv (ok X) 3 [.b false] (pA k13 pT) (by kernel_rfl) ?_
    rcases iteE h with ⟨k17, h⟩ | ⟨k17, h⟩
    ·obtain ⟨v13, k18, h⟩ := z06 h
     obtain ⟨v14, k19, h⟩ := z06 h
     obtain ⟨v15, k20, h⟩ := z06 h
     obtain ⟨v16, k21, h⟩ := z06 h
     obtain ⟨v17, k22, h⟩ := z06 h
     obtain ⟨v18, k23, h⟩ := z06 h
     obtain ⟨v19, k24, h⟩ := z06 h
     obtain rfl := retE h
     exact fin (ok X) 15 [.b true, .s (z0a v13) (z0b v13), .s (z1j v14) (z1k v14), .s (z0a v15) (z0b v15), .s (z1j v16) (z1k v16), .s (z0a v17) (z0b v17), .s (z2p v18) (z2q v18), .s (z0a v19) (z0b v19)] (pA k17 (pA (z0c (X := X) k18) (pA (z1r (X := X) k19) (pA (z0c (X := X) k20) (pA (z1r (X := X) k21) (pA (z0c (X := X) k22) (pA (z7a (X := X) k23) (pA (z0c (X := X) k24) pT)))))))) (by kernel_rfl)
    ·refine adv (ok X) 3 [.b false] (pA k17 pT) (by kernel_rfl) ?_
     rcases iteE h with ⟨k25, h⟩ | ⟨k25, h⟩
     ·obtain ⟨v20, k26, h⟩ := z06 h
      obtain ⟨v21, k27, h⟩ := z06 h
      obtain ⟨v22, k28, h⟩ := z06 h
      obtain rfl := retE h
      exact fin (ok X) 7 [.b true, .s (z0a v20) (z0b v20), .s (z1j v21) (z1k v21), .s (z5b v22) (z5c v22)] (pA k25 (pA (z0c (X := X) k26) (pA (z1r (X := X) k27) (pA (ih_ast_writer_arms _ _ _ k28) pT)))) (by kernel_rfl)
     ·refine adv (ok X) 3 [.b false] (pA k25 pT) (by kernel_rfl) ?_
      rcases iteE h with ⟨k29, h⟩ | ⟨k29, h⟩
      ·obtain ⟨v23, k30, h⟩ := z06 h
       obtain ⟨v24, k31, h⟩ := z06 h
       obtain ⟨v25, k32, h⟩ := z06 h
       obtain rfl := retE h
       exact fin (ok X) 7 [.b true, .s (z0a v23) (z0b v23), .s (z8h v24) (z8i v24), .s (z0a v25) (z0b v25)] (pA k29 (pA (z0c (X := X) k30) (pA (zag (X := X) k31) (pA (z0c (X := X) k32) pT)))) (by kernel_rfl)
      ·refine adv (ok X) 3 [.b false] (pA k29 pT) (by kernel_rfl) ?_
       rcases iteE h with ⟨k33, h⟩ | ⟨k33, h⟩
       ·obtain ⟨v26, k34, h⟩ := z06 h
        obtain ⟨v27, k35, h⟩ := z06 h
        obtain ⟨v28, k36, h⟩ := z06 h
        obtain rfl := retE h
        exact fin (ok X) 7 [.b true, .s (z0a v26) (z0b v26), .s (z1j v27) (z1k v27), .s (z0a v28) (z0b v28)] (pA k33 (pA (z0c (X := X) k34) (pA (z1r (X := X) k35) (pA (z0c (X := X) k36) pT)))) (by kernel_rfl)
       ·obtain ⟨v29, k37, h⟩ := z06 h
        obtain rfl := retE h
        exact fin (ok X) 3 [.b false, .s (z2y v29) (z2z v29)] (pA k33 (pA (z35 (X := X) k37) pT)) (by kernel_rfl)

theorem zgu {n : Nat} (ih_ast_writer_stmts : ∀ (a0 : z01) (a1 : (List z03)) (r : z01), z1x n a0 a1 = some r → Cs Tryz.prog (GX X) 89 [xP 0 0, xL (List.map z0j a1)] [oB 135 [.row 1, .pv (.bool a0.f_form), .pv (.bool a0.f_deep), .pv (.int .i64 a0.f_blocks), .pv (.int .i64 a0.f_parens)], oR false 9 1 (List.map z0v a0.f_out)] (z49 r) (z4a r)) (ih_ast_writer_stmt : ∀ (a0 : z01) (a1 : z03) (r : z01), z27 n a0 a1 = some r → Cs Tryz.prog (GX X) 110 [xP 0 0, .agg (bs (z1q a1))] [oB 135 [.row 1, .pv (.bool a0.f_form), .pv (.bool a0.f_deep), .pv (.int .i64 a0.f_blocks), .pv (.int .i64 a0.f_parens)], oR false 9 1 (List.map z0v a0.f_out)] (z5u r) (z5v r)) (ih_ast_writer_block : ∀ (a0 : z01) (a1 : (List z03)) (r : z01), z1l n a0 a1 = some r → Cs Tryz.prog (GX X) 127 [xP 0 0, xL (List.map z0j a1)] [oB 135 [.row 1, .pv (.bool a0.f_form), .pv (.bool a0.f_deep), .pv (.int .i64 a0.f_blocks), .pv (.int .i64 a0.f_parens)], oR false 9 1 (List.map z0v a0.f_out)] (z4b r) (z4c r)) (ih_ast_writer_arms : ∀ (a0 : z01) (a1 : (List z0m)) (r : z01), z2l n a0 a1 = some r → Cs Tryz.prog (GX X) 128 [xP 0 0, xL (List.map z1n a1)] [oB 135 [.row 1, .pv (.bool a0.f_form), .pv (.bool a0.f_deep), .pv (.int .i64 a0.f_blocks), .pv (.int .i64 a0.f_parens)], oR false 9 1 (List.map z0v a0.f_out)] (z5b r) (z5c r)) (a0 : z01) (a1 : (List z03)) (r : z01) (h : z1l (n + 1) a0 a1 = some r) : Cs Tryz.prog (GX X) 127 [xP 0 0, xL (List.map z0j a1)] [oB 135 [.row 1, .pv (.bool a0.f_form), .pv (.bool a0.f_deep), .pv (.int .i64 a0.f_blocks), .pv (.int .i64 a0.f_parens)], oR false 9 1 (List.map z0v a0.f_out)] (z4b r) (z4c r) := by
 refine fnT (cx := cx X) Tryz.f127 Tryz.call127 Tryz.func127 (by kernel_rfl) ?_
 rw [z1l] at h
 obtain ⟨v1, k1, h⟩ := z06 h
 refine adv (ok X) 5 [.s (z0a v1) (z0b v1)] (pA (z0c (X := X) k1) pT) (by kernel_rfl) ?_
 refine jn (ok X) 1 (fun (j1 : Bool) => ⟨41, 2, [(0, [xP 0 0]), (1, [xL (List.map z0j a1)])], [oB 135 [.row 1, .pv (.bool v1.f_form), .pv (.bool j1), .pv (.int .i64 (IntKind.i64.wrap (v1.f_blocks + 1))), .pv (.int .i64 v1.f_parens)], oR true 9 1 (List.map z0v v1.f_out)]⟩) h (fun j1 h => ?_) (fun j1 h => ?_)
 ·rcases iteE h with ⟨k2, h⟩ | ⟨k2, h⟩
  ·obtain rfl := retE h
   exact fin (ok X) 1 (bT 6 []) (pR 6 k2 pT) (by kernel_rfl)
  ·obtain rfl := retE h
   exact fin (ok X) 1 (bF 6 []) (pR 6 k2 pT) (by kernel_rfl)
 ·obtain ⟨v2, k3, h⟩ := z06 h
  obtain ⟨v3, k4, h⟩ := z06 h
  obtain rfl := retE h
  exact fin (ok X) 5 [.s (z49 v2) (z4a v2), .s (z0a v3) (z0b v3)] (pA (ih_ast_writer_stmts _ _ _ k3) (pA (z0c (X := X) k4) pT)) (by kernel_rfl)

theorem zhs {n : Nat} (ih_ast_writer_stmts : ∀ (a0 : z01) (a1 : (List z03)) (r : z01), z1x n a0 a1 = some r → Cs Tryz.prog (GX X) 89 [xP 0 0, xL (List.map z0j a1)] [oB 135 [.row 1, .pv (.bool a0.f_form), .pv (.bool a0.f_deep), .pv (.int .i64 a0.f_blocks), .pv (.int .i64 a0.f_parens)], oR false 9 1 (List.map z0v a0.f_out)] (z49 r) (z4a r)) (ih_ast_writer_stmt : ∀ (a0 : z01) (a1 : z03) (r : z01), z27 n a0 a1 = some r → Cs Tryz.prog (GX X) 110 [xP 0 0, .agg (bs (z1q a1))] [oB 135 [.row 1, .pv (.bool a0.f_form), .pv (.bool a0.f_deep), .pv (.int .i64 a0.f_blocks), .pv (.int .i64 a0.f_parens)], oR false 9 1 (List.map z0v a0.f_out)] (z5u r) (z5v r)) (ih_ast_writer_block : ∀ (a0 : z01) (a1 : (List z03)) (r : z01), z1l n a0 a1 = some r → Cs Tryz.prog (GX X) 127 [xP 0 0, xL (List.map z0j a1)] [oB 135 [.row 1, .pv (.bool a0.f_form), .pv (.bool a0.f_deep), .pv (.int .i64 a0.f_blocks), .pv (.int .i64 a0.f_parens)], oR false 9 1 (List.map z0v a0.f_out)] (z4b r) (z4c r)) (ih_ast_writer_arms : ∀ (a0 : z01) (a1 : (List z0m)) (r : z01), z2l n a0 a1 = some r → Cs Tryz.prog (GX X) 128 [xP 0 0, xL (List.map z1n a1)] [oB 135 [.row 1, .pv (.bool a0.f_form), .pv (.bool a0.f_deep), .pv (.int .i64 a0.f_blocks), .pv (.int .i64 a0.f_parens)], oR false 9 1 (List.map z0v a0.f_out)] (z5b r) (z5c r)) (a0 : z01) (a1 : (List z0m)) (r : z01) (h : z2l (n + 1) a0 a1 = some r) : Cs Tryz.prog (GX X) 128 [xP 0 0, xL (List.map z1n a1)] [oB 135 [.row 1, .pv (.bool a0.f_form), .pv (.bool a0.f_deep), .pv (.int .i64 a0.f_blocks), .pv (.int .i64 a0.f_parens)], oR false 9 1 (List.map z0v a0.f_out)] (z5b r) (z5c r) := by
 refine fnT (cx := cx X) Tryz.f128 Tryz.call128 Tryz.func128 (by kernel_rfl) ?_
 rw [z2l] at h
 obtain ⟨v1, k1, h⟩ := z06 h
 obtain ⟨v2, k2, h⟩ := z06 h
 refine adv (ok X) 7 [.i (a1.length : Int), .s (z2y v1) (z2z v1), .s (z0a v2) (z0b v2), .i (a1.length : Int)] (pA (lm z1n a1) (pA (z35 (X := X) k1) (pA (z0c (X := X) k2) (pA (lm z1n a1) pT)))) (by kernel_rfl) ?_
 refine lp (ok X) (z5i (z1x n) (z27 n) (z1l n) (z2l n) a1) (fun (x1 : (Int × Bool × Bool × Int × Int × (List ByteArray))) => ⟨42, 2, [(0, [xP 0 0]), (14, [xL (List.map z1n a1)]), (15, [xI (a1.length : Int)]), (16, [xI x1.1])], [oB 135 [.row 1, .pv (.bool x1.2.1), .pv (.bool x1.2.2.1), .pv (.int .i64 x1.2.2.2.1), .pv (.int .i64 x1.2.2.2.2.1)], oR true 9 1 (List.map z0v x1.2.2.2.2.2)]⟩) (fun (j1 : (Bool × Bool × Int × Int × (List ByteArray))) => ⟨42, 2, [(0, [xP 0 0])], [oB 135 [.row 1, .pv (.bool j1.1), .pv (.bool j1.2.1), .pv (.int .i64 j1.2.2.1), .pv (.int .i64 j1.2.2.2.1)], oR true 9 1 (List.map z0v j1.2.2.2.2)]⟩) zhl (0, v2.f_form, v2.f_deep, v2.f_blocks, v2.f_parens, v2.f_out) (fun _ => ⟨_, _, _, _, rfl⟩) h (by kernel_rfl) (fun x1 o h => ?_) (fun r' h => ?_) (fun j1 h => ?_)
 ·unfold z5i at h
  rcases iteE h with ⟨k3, h⟩ | ⟨k3, h⟩
  ·obtain ⟨v3, k4, h⟩ := z06 h
   obtain ⟨v4, k5, h⟩ := z06 h
   obtain ⟨v5, k6, h⟩ := z06 h
   obtain ⟨v6, k7, h⟩ := z06 h
   obtain ⟨v7, k8, h⟩ := z06 h
   obtain ⟨v8, k9, h⟩ := z06 h
   obtain rfl := retE h
   exact fin (ok X) 20 [.b true, .e (z5p v3), .s (z1j v4) (z1k v4), .s (z0a v5) (z0b v5), .s (z1j v6) (z1k v6), .s (z0a v7) (z0b v7), .s (z4b v8) (z4c v8)] (pA k3 (pA (ixr z81 k4) (pA (z1r (X := X) k5) (pA (z0c (X := X) k6) (pA (z1r (X := X) k7) (pA (z0c (X := X) k8) (pA (ih_ast_writer_block _ _ _ k9) pT))))))) (by kernel_rfl)
  ·obtain rfl := retE h
   exact fin (ok X) 5 [.b false] (pA k3 pT) (by kernel_rfl)
 ·cases h
 ·obtain ⟨v9, k10, h⟩ := z06 h
  obtain rfl := retE h
  exact fin (ok X) 1 [.s (z0a v9) (z0b v9)] (pA (z0c (X := X) k10) pT) (by kernel_rfl)

theorem zb5 : ∀ n : Nat, (∀ (a0 : z01) (a1 : (List z03)) (r : z01), z1x n a0 a1 = some r → Cs Tryz.prog (GX X) 89 [xP 0 0, xL (List.map z0j a1)] [oB 135 [.row 1, .pv (.bool a0.f_form), .pv (.bool a0.f_deep), .pv (.int .i64 a0.f_blocks), .pv (.int .i64 a0.f_parens)], oR false 9 1 (List.map z0v a0.f_out)] (z49 r) (z4a r)) ∧ (∀ (a0 : z01) (a1 : z03) (r : z01), z27 n a0 a1 = some r → Cs Tryz.prog (GX X) 110 [xP 0 0, .agg (bs (z1q a1))] [oB 135 [.row 1, .pv (.bool a0.f_form), .pv (.bool a0.f_deep), .pv (.int .i64 a0.f_blocks), .pv (.int .i64 a0.f_parens)], oR false 9 1 (List.map z0v a0.f_out)] (z5u r) (z5v r)) ∧ (∀ (a0 : z01) (a1 : (List z03)) (r : z01), z1l n a0 a1 = some r → Cs Tryz.prog (GX X) 127 [xP 0 0, xL (List.map z0j a1)] [oB 135 [.row 1, .pv (.bool a0.f_form), .pv (.bool a0.f_deep), .pv (.int .i64 a0.f_blocks), .pv (.int .i64 a0.f_parens)], oR false 9 1 (List.map z0v a0.f_out)] (z4b r) (z4c r)) ∧ (∀ (a0 : z01) (a1 : (List z0m)) (r : z01), z2l n a0 a1 = some r → Cs Tryz.prog (GX X) 128 [xP 0 0, xL (List.map z1n a1)] [oB 135 [.row 1, .pv (.bool a0.f_form), .pv (.bool a0.f_deep), .pv (.int .i64 a0.f_blocks), .pv (.int .i64 a0.f_parens)], oR false 9 1 (List.map z0v a0.f_out)] (z5b r) (z5c r))
 | 0 => ⟨(fun _ _ _ h => by rw [z1x] at h; cases h), (fun _ _ _ h => by rw [z27] at h; cases h), (fun _ _ _ h => by rw [z1l] at h; cases h), (fun _ _ _ h => by rw [z2l] at h; cases h)⟩
 | n + 1 => by
  have ih := zb5 n
  exact ⟨zgt ih.1 ih.2.1 ih.2.2.1 ih.2.2.2, zhr ih.1 ih.2.1 ih.2.2.1 ih.2.2.2, zgu ih.1 ih.2.1 ih.2.2.1 ih.2.2.2, zhs ih.1 ih.2.1 ih.2.2.1 ih.2.2.2⟩

theorem zgv {a0 : z01} {a1 : (List z03)} {r : z01} (h : z97 a0 a1 = some r) : Cs Tryz.prog (GX X) 89 [xP 0 0, xL (List.map z0j a1)] [oB 135 [.row 1, .pv (.bool a0.f_form), .pv (.bool a0.f_deep), .pv (.int .i64 a0.f_blocks), .pv (.int .i64 a0.f_parens)], oR false 9 1 (List.map z0v a0.f_out)] (z49 r) (z4a r) := by
 obtain ⟨n, hn⟩ := unfE h
 exact (zb5 n).1 _ _ _ hn

theorem zht {a0 : z01} {a1 : z2h} {r : z01} (h : z79 a0 a1 = some r) : Cs Tryz.prog (GX X) 54 [xP 0 0, .agg (bs (z0k a1))] [oB 135 [.row 1, .pv (.bool a0.f_form), .pv (.bool a0.f_deep), .pv (.int .i64 a0.f_blocks), .pv (.int .i64 a0.f_parens)], oR false 9 1 (List.map z0v a0.f_out)] (zae r) (zaf r) := by
 refine fnT (cx := cx X) Tryz.f54 Tryz.call54 Tryz.func54 (by kernel_rfl) ?_
 unfold z79 at h
 obtain ⟨v1, k1, h⟩ := z06 h
 obtain ⟨v2, k2, h⟩ := z06 h
 obtain ⟨v3, k3, h⟩ := z06 h
 refine adv (ok X) 11 [.s (z0a v1) (z0b v1), .s (z1j v2) (z1k v2), .s (z0a v3) (z0b v3), .i (a1.Vars.length : Int)] (pA (z0c (X := X) k1) (pA (z1r (X := X) k2) (pA (z0c (X := X) k3) (pA (lm z0v a1.Vars) pT)))) (by kernel_rfl) ?_
 refine lp (ok X) (z63 a1) (fun (x1 : (Int × Bool × Bool × Int × Int × (List ByteArray))) => ⟨40, 2, [(0, [xP 0 0]), (3, [xP 2 0]), (17, [xL (List.map z0v a1.Vars)]), (18, [xI (a1.Vars.length : Int)]), (19, [xI x1.1])], [oB 135 [.row 1, .pv (.bool x1.2.1), .pv (.bool x1.2.2.1), .pv (.int .i64 x1.2.2.2.1), .pv (.int .i64 x1.2.2.2.2.1)], oR true 9 1 (List.map z0v x1.2.2.2.2.2), oB 81 (bs (z0k a1))]⟩) (fun (j1 : (Bool × Bool × Int × Int × (List ByteArray))) => ⟨40, 2, [(0, [xP 0 0]), (3, [xP 2 0])], [oB 135 [.row 1, .pv (.bool j1.1), .pv (.bool j1.2.1), .pv (.int .i64 j1.2.2.1), .pv (.int .i64 j1.2.2.2.1)], oR true 9 1 (List.map z0v j1.2.2.2.2), oB 81 (bs (z0k a1))]⟩) zhm (0, v3.f_form, v3.f_deep, v3.f_blocks, v3.f_parens, v3.f_out) (fun _ => ⟨_, _, _, _, rfl⟩) h (by kernel_rfl) (fun x1 o h => ?_) (fun r' h => ?_) (fun j1 h => ?_)
 ·unfold z63 at h
  rcases iteE h with ⟨k4, h⟩ | ⟨k4, h⟩
  ·obtain ⟨v4, k5, h⟩ := z06 h
   obtain ⟨v5, k6, h⟩ := z06 h
   obtain ⟨v6, k7, h⟩ := z06 h
   obtain ⟨v7, k8, h⟩ := z06 h
   obtain rfl := retE h
   exact fin (ok X) 16 [.b true, .e [.str v4], .s (z0a v5) (z0b v5), .s (z1j v6) (z1k v6), .s (z0a v7) (z0b v7)] (pA k4 (pA (ixm z0v k5) (pA (z0c (X := X) k6) (pA (z1r (X := X) k7) (pA (z0c (X := X) k8) pT))))) (by kernel_rfl)
  ·obtain rfl := retE h
   exact fin (ok X) 5 [.b false] (pA k4 pT) (by kernel_rfl)
 ·cases h
 ·obtain ⟨v8, k9, h⟩ := z06 h
  obtain ⟨v9, k10, h⟩ := z06 h
  obtain rfl := retE h
  exact fin (ok X) 3 [.s (z49 v8) (z4a v8), .s (z0a v9) (z0b v9)] (pA (zgv (X := X) k9) (pA (z0c (X := X) k10) pT)) (by kernel_rfl)

theorem zjd {a0 : z16} {r : ((List ByteArray) × Int)} (h : zcl a0 = some r) : Cv Tryz.prog (GX X) 17 [.agg (bs (z3t a0))] (zd5 r) := by
 refine Cs.toV (?_ : Cs Tryz.prog (GX X) 17 [.agg (bs (z3t a0))] [] (zd5 r) (zja r)) (by kernel_rfl)
 refine fnT (cx := cx X) Tryz.f17 Tryz.call17 Tryz.func17 (by kernel_rfl) ?_
 unfold zcl at h
 refine adv (ok X) 7 [.i (a0.Chans.length : Int)] (pA (lm z1u a0.Chans) pT) (by kernel_rfl) ?_
 refine lp (ok X) (z83 a0) (fun (x1 : (Int × Bool × Bool × Int × Int × (List ByteArray))) => ⟨67, 0, [(1, [xP 0 0]), (4, [xP 1 0]), (14, [xL (List.map z1u a0.Chans)]), (15, [xI (a0.Chans.length : Int)]), (16, [xI x1.1])], [oB 26 (bs (z3t a0)), oB 135 [.row 2, .pv (.bool x1.2.1), .pv (.bool x1.2.2.1), .pv (.int .i64 x1.2.2.2.1), .pv (.int .i64 x1.2.2.2.2.1)], oR true 9 1 (List.map z0v x1.2.2.2.2.2)]⟩) (fun (j1 : (Bool × Bool × Int × Int × (List ByteArray))) => ⟨67, 0, [(1, [xP 0 0]), (4, [xP 1 0])], [oB 26 (bs (z3t a0)), oB 135 [.row 2, .pv (.bool j1.1), .pv (.bool j1.2.1), .pv (.int .i64 j1.2.2.1), .pv (.int .i64 j1.2.2.2.1)], oR true 9 1 (List.map z0v j1.2.2.2.2)]⟩) zfr (0, false, false, 0, 0, []) (fun _ => ⟨_, _, _, _, rfl⟩) h (by kernel_rfl) (fun x1 o h => ?_) (fun r' h => ?_) (fun j1 h => ?_)
 ·unfold z83 at h
  rcases iteE h with ⟨k1, h⟩ | ⟨k1, h⟩
  ·obtain ⟨v1, k2, h⟩ := z06 h
   obtain ⟨v2, k3, h⟩ := z06 h
   obtain rfl := retE h
   exact fin (ok X) 12 [.b true, .e (z1u v1), .s (z8p v2) (z8q v2)] (pA k1 (pA (ixm z1u k2) (pA (zf3 (X := X) k3) pT))) (by kernel_rfl)
  ·obtain rfl := retE h
   exact fin (ok X) 5 [.b false] (pA k1 pT) (by kernel_rfl)
 ·cases h
 ·refine adv (ok X) 3 [.i (a0.Rules.length : Int)] (pA (lm z28 a0.Rules) pT) (by kernel_rfl) ?_
  refine lp (ok X) (z84 a0) (fun (x2 : (Int × Bool × Bool × Int × Int × (List ByteArray))) => ⟨67, 0, [(1, [xP 0 0]), (4, [xP 1 0]), (25, [xL (List.map z28 a0.Rules)]), (26, [xI (a0.Rules.length : Int)]), (27, [xI x2.1])], [oB 26 (bs (z3t a0)), oB 135 [.row 2, .pv (.bool x2.2.1), .pv (.bool x2.2.2.1), .pv (.int .i64 x2.2.2.2.1), .pv (.int .i64 x2.2.2.2.2.1)], oR true 9 1 (List.map z0v x2.2.2.2.2.2)]⟩) (fun (j2 : (Bool × Bool × Int × Int × (List ByteArray))) => ⟨67, 0, [(1, [xP 0 0]), (4, [xP 1 0])], [oB 26 (bs (z3t a0)), oB 135 [.row 2, .pv (.bool j2.1), .pv (.bool j2.2.1), .pv (.int .i64 j2.2.2.1), .pv (.int .i64 j2.2.2.2.1)], oR true 9 1 (List.map z0v j2.2.2.2.2)]⟩) zfr (0, j1.1, j1.2.1, j1.2.2.1, j1.2.2.2.1, j1.2.2.2.2) (fun _ => ⟨_, _, _, _, rfl⟩) h (by kernel_rfl) (fun x2 o h => ?_) (fun r' h => ?_) (fun j2 h => ?_)
  ·unfold z84 at h
   rcases iteE h with ⟨k4, h⟩ | ⟨k4, h⟩
   ·obtain ⟨v3, k5, h⟩ := z06 h
    obtain ⟨v4, k6, h⟩ := z06 h
    obtain rfl := retE h
    exact fin (ok X) 12 [.b true, .e (z28 v3), .s (zac v4) (zad v4)] (pA k4 (pA (ixm z28 k5) (pA (zho (X := X) k6) pT))) (by kernel_rfl)
   ·obtain rfl := retE h
    exact fin (ok X) 5 [.b false] (pA k4 pT) (by kernel_rfl)
  ·cases h
  ·refine adv (ok X) 3 [.i (a0.Procs.length : Int)] (pA (lm z0k a0.Procs) pT) (by kernel_rfl) ?_
   refine lp (ok X) (z86 a0) (fun (x3 : (Int × Bool × Bool × Int × Int × (List ByteArray))) => ⟨67, 0, [(4, [xP 1 0]), (36, [xL (List.map z0k a0.Procs)]), (37, [xI (a0.Procs.length : Int)]), (38, [xI x3.1])], [none, oB 135 [.row 2, .pv (.bool x3.2.1), .pv (.bool x3.2.2.1), .pv (.int .i64 x3.2.2.2.1), .pv (.int .i64 x3.2.2.2.2.1)], oR true 9 1 (List.map z0v x3.2.2.2.2.2)]⟩) (fun (j3 : (Bool × Bool × Int × Int × (List ByteArray))) => ⟨67, 0, [(4, [xP 1 0])], [none, oB 135 [.row 2, .pv (.bool j3.1), .pv (.bool j3.2.1), .pv (.int .i64 j3.2.2.1), .pv (.int .i64 j3.2.2.2.1)], oR true 9 1 (List.map z0v j3.2.2.2.2)]⟩) zfr (0, j2.1, j2.2.1, j2.2.2.1, j2.2.2.2.1, j2.2.2.2.2) (fun _ => ⟨_, _, _, _, rfl⟩) h (by kernel_rfl) (fun x3 o h => ?_) (fun r' h => ?_) (fun j3 h => ?_)
   ·unfold z86 at h
    rcases iteE h with ⟨k7, h⟩ | ⟨k7, h⟩
    ·obtain ⟨v5, k8, h⟩ := z06 h
     obtain ⟨v6, k9, h⟩ := z06 h
     obtain rfl := retE h
     exact fin (ok X) 12 [.b true, .e (z0k v5), .s (zae v6) (zaf v6)] (pA k7 (pA (ixm z0k k8) (pA (zht (X := X) k9) pT))) (by kernel_rfl)
    ·obtain rfl := retE h
     exact fin (ok X) 5 [.b false] (pA k7 pT) (by kernel_rfl)
   ·cases h
   ·rcases iteE h with ⟨k10, h⟩ | ⟨k10, h⟩
    ·obtain rfl := retE h
     exact fin (ok X) 8 [.b true] (pA k10 pT) (by kernel_rfl)
    ·refine adv (ok X) 7 [.b false] (pA k10 pT) (by kernel_rfl) ?_
     rcases iteE h with ⟨k11, h⟩ | ⟨k11, h⟩
     ·obtain rfl := retE h
      exact fin (ok X) 4 [.b true] (pA k11 pT) (by kernel_rfl)
     ·refine adv (ok X) 3 [.b false, .i (j3.2.2.2.2.length : Int)] (pA k11 (pA (lm z0v j3.2.2.2.2) pT)) (by kernel_rfl) ?_
      rcases iteE h with ⟨k12, h⟩ | ⟨k12, h⟩
      ·obtain rfl := retE h
       exact fin (ok X) 4 [.b true] (pA k12 pT) (by kernel_rfl)
      ·obtain rfl := retE h
       exact fin (ok X) 6 [.b false] (pA k12 pT) (by kernel_rfl)

theorem zs3 {a0 : z16} {r : ByteArray × Int} (h : zgp a0 = some r) : Cv Tryz.prog (GX X) 16 [.agg (bs (z3t a0))] (zkf r) := by
 unfold zgp at h
 obtain ⟨q, k, h⟩ := z06 h
 split at h
 ·rename_i hle
  obtain rfl := retE h
  exact zu5 hle (zjd (X := X) k)
 ·cases h
end Go.Proofs.YtokjbpmjdcbogaaGreatDoor.Abs

/- Gw: the functions are these. -/
import Derived.Test.YtgmbfjcidiedfaaGreatDoorGwW0
namespace Go.Proofs.YtgmbfjcidiedfaaGreatDoor.Abs
open Go Go.RowKit
set_option linter.unusedVariables false
set_option maxRecDepth 100000
set_option maxHeartbeats 4000000
variable {X : EV}
theorem z8a {a0 : z01} {a1 : Int} {r : z01} (h : z4z a0 a1 = some r) : Cs Tryz.prog (GX X) 91 [xP 0 0, xI a1] [oB 164 [.row 1, .pv (.bool a0.f_form), .pv (.bool a0.f_deep), .pv (.int .i64 a0.f_blocks), .pv (.int .i64 a0.f_parens)], oR false 9 1 (List.map z0a a0.f_out)] (z74 r) (z76 r) := by
 refine fnT (cx := cx X) Tryz.f91 Tryz.call91 Tryz.func91 (by kernel_rfl) ?_
 unfold z4z at h
 refine adv (ok X) 1 [] pT (by kernel_rfl) ?_
 refine jn (ok X) 1 (fun (j1 : (Bool × Bool × Int × Int × (List ByteArray))) => ⟨17, 2, [(0, [xP 0 0]), (1, [xI a1])], [oB 164 [.row 1, .pv (.bool j1.1), .pv (.bool j1.2.1), .pv (.int .i64 j1.2.2.1), .pv (.int .i64 j1.2.2.2.1)], oR false 9 1 (List.map z0a j1.2.2.2.2)]⟩) h (fun j1 h => ?_) (fun j1 h => ?_)
 ·rcases iteE h with ⟨k1, h⟩ | ⟨k1, h⟩
  ·obtain ⟨v1, k2, h⟩ := z07 h
   obtain rfl := retE h
   exact fin (ok X) 1 (bT 3 [.s (z3o v1) (z3p v1)]) (pR 3 k1 (pA (z3v (X := X) k2) pT)) (by kernel_rfl)
  ·obtain ⟨v2, k3, h⟩ := z07 h
   obtain rfl := retE h
   exact fin (ok X) 1 (bF 3 [.s (z3o v2) (z3p v2)]) (pR 3 k1 (pA (z3v (X := X) k3) pT)) (by kernel_rfl)
 ·obtain ⟨v3, k4, h⟩ := z07 h
  obtain ⟨v4, k5, h⟩ := z07 h
  obtain rfl := retE h
  exact fin (ok X) 1 [.c (z01l v3), .s (z0j v4) (z0k v4)] (pA (z060 (X := X) k4) (pA (z0l (X := X) k5) pT)) (by kernel_rfl)

theorem zio {a0 : z01} {a1 : z4o} {r : z01} (h : z7k a0 a1 = some r) : Cs Tryz.prog (GX X) 67 [xP 0 0, .agg (bs (z0e a1))] [oB 164 [.row 1, .pv (.bool a0.f_form), .pv (.bool a0.f_deep), .pv (.int .i64 a0.f_blocks), .pv (.int .i64 a0.f_parens)], oR false 9 1 (List.map z0a a0.f_out)] (zav r) (zaw r) := by
 refine fnT (cx := cx X) Tryz.f67 Tryz.call67 Tryz.func67 (by kernel_rfl) ?_
 unfold z7k at h
 obtain ⟨v1, k1, h⟩ := z07 h
 obtain ⟨v2, k2, h⟩ := z07 h
 refine adv (ok X) 8 [.s (z0j v1) (z0k v1), .s (z1x v2) (z1y v2)] (pA (z0l (X := X) k1) (pA (z26 (X := X) k2) pT)) (by kernel_rfl) ?_
 refine jn (ok X) 1 (fun (j1 : Bool) => ⟨77, 2, [(0, [xP 0 0]), (3, [xP 2 0]), (20, [xB j1])], [oB 164 [.row 1, .pv (.bool v2.f_form), .pv (.bool v2.f_deep), .pv (.int .i64 v2.f_blocks), .pv (.int .i64 v2.f_parens)], oR true 9 1 (List.map z0a v2.f_out), oB 71 (bs (z0e a1))]⟩) h (fun j1 h => ?_) (fun j1 h => ?_)
 ·rcases iteE h with ⟨k3, h⟩ | ⟨k3, h⟩
  ·obtain rfl := retE h
   exact fin (ok X) 1 (bT 4 []) (pR 4 k3 pT) (by kernel_rfl)
  ·obtain rfl := retE h
   exact fin (ok X) 1 (bF 4 []) (pR 4 k3 pT) (by kernel_rfl)
 ·rcases iteE h with ⟨k4, h⟩ | ⟨k4, h⟩
  ·obtain ⟨v3, k5, h⟩ := z07 h
   obtain ⟨v4, k6, h⟩ := z07 h
   obtain ⟨v5, k7, h⟩ := z07 h
   obtain ⟨v6, k8, h⟩ := z07 h
   obtain ⟨v7, k9, h⟩ := z07 h
   obtain ⟨v8, k10, h⟩ := z07 h
   obtain ⟨v9, k11, h⟩ := z07 h
   obtain ⟨v10, k12, h⟩ := z07 h
   refine adv (ok X) 19 [.b true, .s (z3o v3) (z3p v3), .s (z74 v4) (z76 v4), .s (z0j v5) (z0k v5), .s (z1x v6) (z1y v6), .s (z0j v7) (z0k v7), .s (z1x v8) (z1y v8), .s (z0j v9) (z0k v9), .i (a1.Tags.length : Int), .s (z3o v10) (z3p v10), .i (a1.Tags.length : Int)] (pA k4 (pA (z3v (X := X) k5) (pA (z8a (X := X) k6) (pA (z0l (X := X) k7) (pA (z26 (X := X) k8) (pA (z0l (X := X) k9) (pA (z26 (X := X) k10) (pA (z0l (X := X) k11) (pA (lm z0a a1.Tags) (pA (z3v (X := X) k12) (pA (lm z0a a1.Tags) pT))))))))))) (by kernel_rfl) ?_
   refine lp (ok X) (z5p a1) (fun (x2 : (Int × Bool × Bool × Int × Int × (List ByteArray))) => ⟨77, 2, [(0, [xP 0 0]), (58, [xL (List.map z0a a1.Tags)]), (59, [xI (a1.Tags.length : Int)]), (60, [xI x2.1])], [oB 164 [.row 1, .pv (.bool x2.2.1), .pv (.bool x2.2.2.1), .pv (.int .i64 x2.2.2.2.1), .pv (.int .i64 x2.2.2.2.2.1)], oR true 9 1 (List.map z0a x2.2.2.2.2.2)]⟩) (fun (j2 : (Bool × Bool × Int × Int × (List ByteArray))) => ⟨77, 2, [(0, [xP 0 0])], [oB 164 [.row 1, .pv (.bool j2.1), .pv (.bool j2.2.1), .pv (.int .i64 j2.2.2.1), .pv (.int .i64 j2.2.2.2.1)], oR true 9 1 (List.map z0a j2.2.2.2.2)]⟩) zdz (0, v10.f_form, v10.f_deep, v10.f_blocks, v10.f_parens, v10.f_out) (fun _ => ⟨_, _, _, _, rfl⟩) h (by kernel_rfl) (fun x2 o h => ?_) (fun r' h => ?_) (fun j2 h => ?_)
   ·unfold z5p at h
    rcases iteE h with ⟨k13, h⟩ | ⟨k13, h⟩
    ·refine adv (ok X) 6 [.b true] (pA k13 pT) (by kernel_rfl) ?_
     refine jn (ok X) 1 (fun (j3 : (Bool × Bool × Int × Int × (List ByteArray))) => ⟨77, 2, [(0, [xP 0 0]), (58, [xL (List.map z0a a1.Tags)]), (59, [xI (a1.Tags.length : Int)]), (60, [xI x2.1])], [oB 164 [.row 1, .pv (.bool j3.1), .pv (.bool j3.2.1), .pv (.int .i64 j3.2.2.1), .pv (.int .i64 j3.2.2.2.1)], oR true 9 1 (List.map z0a j3.2.2.2.2)]⟩) h (fun j3 h => ?_) (fun j3 h => ?_)
     ·obtain ⟨v11, k14, h⟩ := z07 h
      refine adv (ok X) 6 [.e [.str v11]] (pA (ixm z0a k14) pT) (by kernel_rfl) ?_
      rcases iteE h with ⟨k15, h⟩ | ⟨k15, h⟩
      ·obtain ⟨v12, k16, h⟩ := z07 h
       obtain ⟨v13, k17, h⟩ := z07 h
       obtain rfl := retE h
       exact fin (ok X) 4 [.b true, .s (z0j v12) (z0k v12), .s (z1x v13) (z1y v13)] (pA k15 (pA (z0l (X := X) k16) (pA (z26 (X := X) k17) pT))) (by kernel_rfl)
      ·obtain ⟨v14, k18, h⟩ := z07 h
       obtain rfl := retE h
       exact fin (ok X) 4 [.b false, .s (z1x v14) (z1y v14)] (pA k15 (pA (z26 (X := X) k18) pT)) (by kernel_rfl)
     ·obtain rfl := retE h
      exact fin (ok X) 1 [] pT (by kernel_rfl)
    ·obtain rfl := retE h
     exact fin (ok X) 5 [.b false] (pA k13 pT) (by kernel_rfl)
   ·cases h
   ·obtain ⟨v15, k19, h⟩ := z07 h
    obtain rfl := retE h
    exact fin (ok X) 1 [.s (z0j v15) (z0k v15)] (pA (z0l (X := X) k19) pT) (by kernel_rfl)
  ·obtain ⟨v16, k20, h⟩ := z07 h
   obtain ⟨v17, k21, h⟩ := z07 h
   obtain ⟨v18, k22, h⟩ := z07 h
   obtain ⟨v19, k23, h⟩ := z07 h
   obtain ⟨v20, k24, h⟩ := z07 h
   obtain ⟨v21, k25, h⟩ := z07 h
   obtain ⟨v22, k26, h⟩ := z07 h
   obtain ⟨v23, k27, h⟩ := z07 h
   obtain ⟨v24, k28, h⟩ := z07 h
   refine adv (ok X) 19 [.b false, .e [.str v16], .s (z0j v17) (z0k v17), .s (z74 v18) (z76 v18), .s (z0j v19) (z0k v19), .s (z1x v20) (z1y v20), .s (z0j v21) (z0k v21), .s (z1x v22) (z1y v22), .s (z0j v23) (z0k v23), .i (a1.Tags.length : Int), .s (z3o v24) (z3p v24), .i (a1.Tags.length : Int)] (pA k4 (pA (ixm z0a k20) (pA (z0l (X := X) k21) (pA (z8a (X := X) k22) (pA (z0l (X := X) k23) (pA (z26 (X := X) k24) (pA (z0l (X := X) k25) (pA (z26 (X := X) k26) (pA (z0l (X := X) k27) (pA (lm z0a a1.Tags) (pA (z3v (X := X) k28) (pA (lm z0a a1.Tags) pT)))))))))))) (by kernel_rfl) ?_
   refine lp (ok X) (z5q a1) (fun (x4 : (Int × Bool × Bool × Int × Int × (List ByteArray))) => ⟨77, 2, [(0, [xP 0 0]), (58, [xL (List.map z0a a1.Tags)]), (59, [xI (a1.Tags.length : Int)]), (60, [xI x4.1])], [oB 164 [.row 1, .pv (.bool x4.2.1), .pv (.bool x4.2.2.1), .pv (.int .i64 x4.2.2.2.1), .pv (.int .i64 x4.2.2.2.2.1)], oR true 9 1 (List.map z0a x4.2.2.2.2.2)]⟩) (fun (j4 : (Bool × Bool × Int × Int × (List ByteArray))) => ⟨77, 2, [(0, [xP 0 0])], [oB 164 [.row 1, .pv (.bool j4.1), .pv (.bool j4.2.1), .pv (.int .i64 j4.2.2.1), .pv (.int .i64 j4.2.2.2.1)], oR true 9 1 (List.map z0a j4.2.2.2.2)]⟩) zdz (0, v24.f_form, v24.f_deep, v24.f_blocks, v24.f_parens, v24.f_out) (fun _ => ⟨_, _, _, _, rfl⟩) h (by kernel_rfl) (fun x4 o h => ?_) (fun r' h => ?_) (fun j4 h => ?_)
   ·unfold z5q at h
    rcases iteE h with ⟨k29, h⟩ | ⟨k29, h⟩
    ·refine adv (ok X) 6 [.b true] (pA k29 pT) (by kernel_rfl) ?_
     refine jn (ok X) 1 (fun (j5 : (Bool × Bool × Int × Int × (List ByteArray))) => ⟨77, 2, [(0, [xP 0 0]), (58, [xL (List.map z0a a1.Tags)]), (59, [xI (a1.Tags.length : Int)]), (60, [xI x4.1])], [oB 164 [.row 1, .pv (.bool j5.1), .pv (.bool j5.2.1), .pv (.int .i64 j5.2.2.1), .pv (.int .i64 j5.2.2.2.1)], oR true 9 1 (List.map z0a j5.2.2.2.2)]⟩) h (fun j5 h => ?_) (fun j5 h => ?_)
     ·obtain ⟨v25, k30, h⟩ := z07 h
      refine adv (ok X) 6 [.e [.str v25]] (pA (ixm z0a k30) pT) (by kernel_rfl) ?_
      rcases iteE h with ⟨k31, h⟩ | ⟨k31, h⟩
      ·obtain ⟨v26, k32, h⟩ := z07 h
       obtain ⟨v27, k33, h⟩ := z07 h
       obtain rfl := retE h
       exact fin (ok X) 4 [.b true, .s (z0j v26) (z0k v26), .s (z1x v27) (z1y v27)] (pA k31 (pA (z0l (X := X) k32) (pA (z26 (X := X) k33) pT))) (by kernel_rfl)
      ·obtain ⟨v28, k34, h⟩ := z07 h
       obtain rfl := retE h
       exact fin (ok X) 4 [.b false, .s (z1x v28) (z1y v28)] (pA k31 (pA (z26 (X := X) k34) pT)) (by kernel_rfl)
     ·obtain rfl := retE h
      exact fin (ok X) 1 [] pT (by kernel_rfl)
    ·obtain rfl := retE h
     exact fin (ok X) 5 [.b false] (pA k29 pT) (by kernel_rfl)
   ·cases h
   ·obtain ⟨v29, k35, h⟩ := z07 h
    obtain rfl := retE h
    exact fin (ok X) 1 [.s (z0j v29) (z0k v29)] (pA (z0l (X := X) k35) pT) (by kernel_rfl)

theorem zln {a0 : z01} {a1 : z5i} {r : z01} (h : z91 a0 a1 = some r) : Cs Tryz.prog (GX X) 68 [xP 0 0, .agg (bs (z0i a1))] [oB 164 [.row 1, .pv (.bool a0.f_form), .pv (.bool a0.f_deep), .pv (.int .i64 a0.f_blocks), .pv (.int .i64 a0.f_parens)], oR false 9 1 (List.map z0a a0.f_out)] (zcs r) (zct r) := by
 refine fnT (cx := cx X) Tryz.f68 Tryz.call68 Tryz.func68 (by kernel_rfl) ?_
 unfold z91 at h
 obtain ⟨v1, k1, h⟩ := z07 h
 obtain ⟨v2, k2, h⟩ := z07 h
 obtain ⟨v3, k3, h⟩ := z07 h
 refine adv (ok X) 11 [.s (z0j v1) (z0k v1), .s (z1x v2) (z1y v2), .s (z0j v3) (z0k v3), .i (a1.Moves.length : Int)] (pA (z0l (X := X) k1) (pA (z26 (X := X) k2) (pA (z0l (X := X) k3) (pA (lm z9m a1.Moves) pT)))) (by kernel_rfl) ?_
 refine lp (ok X) (z6p a1) (fun (x1 : (Int × Bool × Bool × Int × Int × (List ByteArray))) => ⟨42, 2, [(0, [xP 0 0]), (17, [xL (List.map z9m a1.Moves)]), (18, [xI (a1.Moves.length : Int)]), (19, [xI x1.1])], [oB 164 [.row 1, .pv (.bool x1.2.1), .pv (.bool x1.2.2.1), .pv (.int .i64 x1.2.2.2.1), .pv (.int .i64 x1.2.2.2.2.1)], oR true 9 1 (List.map z0a x1.2.2.2.2.2)]⟩) (fun (j1 : (Bool × Bool × Int × Int × (List ByteArray))) => ⟨42, 2, [(0, [xP 0 0])], [oB 164 [.row 1, .pv (.bool j1.1), .pv (.bool j1.2.1), .pv (.int .i64 j1.2.2.1), .pv (.int .i64 j1.2.2.2.1)], oR true 9 1 (List.map z0a j1.2.2.2.2)]⟩) zlj (0, v3.f_form, v3.f_deep, v3.f_blocks, v3.f_parens, v3.f_out) (fun _ => ⟨_, _, _, _, rfl⟩) h (by kernel_rfl) (fun x1 o h => ?_) (fun r' h => ?_) (fun j1 h => ?_)
 ·unfold z6p at h
  rcases iteE h with ⟨k4, h⟩ | ⟨k4, h⟩
  ·obtain ⟨v4, k5, h⟩ := z07 h
   obtain ⟨v5, k6, h⟩ := z07 h
   obtain ⟨v6, k7, h⟩ := z07 h
   obtain ⟨v7, k8, h⟩ := z07 h
   obtain ⟨v8, k9, h⟩ := z07 h
   obtain rfl := retE h
   exact fin (ok X) 18 [.b true, .e (z9m v4), .s (z74 v5) (z76 v5), .s (z1x v6) (z1y v6), .s (z74 v7) (z76 v7), .s (z0j v8) (z0k v8)] (pA k4 (pA (ixm z9m k5) (pA (z8a (X := X) k6) (pA (z26 (X := X) k7) (pA (z8a (X := X) k8) (pA (z0l (X := X) k9) pT)))))) (by kernel_rfl)
  ·obtain rfl := retE h
   exact fin (ok X) 5 [.b false] (pA k4 pT) (by kernel_rfl)
 ·cases h
 ·obtain ⟨v9, k10, h⟩ := z07 h
  obtain rfl := retE h
  exact fin (ok X) 1 [.s (z0j v9) (z0k v9)] (pA (z0l (X := X) k10) pT) (by kernel_rfl)

theorem zi9 {a0 : Int} {r : Bool} (h : zgl a0 = some r) : Cv Tryz.prog (GX X) 146 [xI a0] (zeg r) := by
 refine Cs.toV (?_ : Cs Tryz.prog (GX X) 146 [xI a0] [] (zeg r) (zvi r)) (by kernel_rfl)
 refine fnT (cx := cx X) Tryz.f146 Tryz.call146 Tryz.func146 (by kernel_rfl) ?_
 unfold zgl at h
 rcases iteE h with ⟨k1, h⟩ | ⟨k1, h⟩
 ·obtain rfl := retE h
  exact fin (ok X) 5 (bT 3 []) (pR 3 k1 pT) (by kernel_rfl)
 ·obtain rfl := retE h
  exact fin (ok X) 5 (bF 3 []) (pR 3 k1 pT) (by kernel_rfl)

theorem zdn {a0 : Int} {r : Bool} (h : zhg a0 = some r) : Cv Tryz.prog (GX X) 147 [xI a0] (zb1 r) := by
 refine Cs.toV (?_ : Cs Tryz.prog (GX X) 147 [xI a0] [] (zb1 r) (zxo r)) (by kernel_rfl)
 refine fnT (cx := cx X) Tryz.f147 Tryz.call147 Tryz.func147 (by kernel_rfl) ?_
 unfold zhg at h
 rcases iteE h with ⟨k1, h⟩ | ⟨k1, h⟩
 ·obtain rfl := retE h
  exact fin (ok X) 5 (bT 3 []) (pR 3 k1 pT) (by kernel_rfl)
 ·obtain rfl := retE h
  exact fin (ok X) 5 (bF 3 []) (pR 3 k1 pT) (by kernel_rfl)

theorem zlo {a0 : z01} {a1 : z05} {r : z01} (h : za3 a0 a1 = some r) : Cs Tryz.prog (GX X) 148 [xP 0 0, .agg (bs (z0p a1))] [oB 164 [.row 1, .pv (.bool a0.f_form), .pv (.bool a0.f_deep), .pv (.int .i64 a0.f_blocks), .pv (.int .i64 a0.f_parens)], oR false 9 1 (List.map z0a a0.f_out)] (zg6 r) (zg7 r) := by
 refine fnT (cx := cx X) Tryz.f148 Tryz.call148 Tryz.func148 (by kernel_rfl) ?_
 unfold za3 at h
 obtain ⟨v1, k1, h⟩ := z07 h
 refine adv (ok X) 7 [.i (a1.Kids.length : Int), .s (z3o v1) (z3p v1)] (pA (lm z2s a1.Kids) (pA (z3v (X := X) k1) pT)) (by kernel_rfl) ?_
 rcases iteE h with ⟨k2, h⟩ | ⟨k2, h⟩
 ·obtain ⟨v2, k3, h⟩ := z07 h
  obtain rfl := retE h
  exact fin (ok X) 4 [.b true, .s (z74 v2) (z76 v2)] (pA k2 (pA (z8a (X := X) k3) pT)) (by kernel_rfl)
 ·obtain ⟨v3, k4, h⟩ := z07 h
  obtain ⟨v4, k5, h⟩ := z07 h
  obtain rfl := retE h
  exact fin (ok X) 5 [.b false, .s (z3o v3) (z3p v3), .s (z1x v4) (z1y v4)] (pA k2 (pA (z3v (X := X) k4) (pA (z26 (X := X) k5) pT))) (by kernel_rfl)

theorem zlp {n : Nat} (ih_ast_writer_expr : ∀ (a0 : z01) (a1 : z05) (r : z01), z2a n a0 a1 = some r → Cs Tryz.prog (GX X) 130 [xP 0 0, .agg (bs (z0p a1))] [oB 164 [.row 1, .pv (.bool a0.f_form), .pv (.bool a0.f_deep), .pv (.int .i64 a0.f_blocks), .pv (.int .i64 a0.f_parens)], oR false 9 1 (List.map z0a a0.f_out)] (z3h r) (z3i r)) (ih_ast_writer_deeper_ast_writer_expr_1 : ∀ (a0 : z01) (a1011 : z05) (r : z01), z12 n a0 a1011 = some r → Cs Tryz.prog (GX X) 143 [xP 0 0, .fn (.func 144) [] [.box 2 0, .box 3 0]] [oB 164 [.row 1, .pv (.bool a0.f_form), .pv (.bool a0.f_deep), .pv (.int .i64 a0.f_blocks), .pv (.int .i64 a0.f_parens)], oR false 9 1 (List.map z0a a0.f_out), oB 162 [.box 0 0], oB 154 (bs (z0p a1011))] (z1r r) (z1s a1011 r)) (ih_ast_writer_kid : ∀ (a0 : z01) (a1 : z05) (a2 : Bool) (r : z01), z2d n a0 a1 a2 = some r → Cs Tryz.prog (GX X) 145 [xP 0 0, .agg (bs (z0p a1)), xB a2] [oB 164 [.row 1, .pv (.bool a0.f_form), .pv (.bool a0.f_deep), .pv (.int .i64 a0.f_blocks), .pv (.int .i64 a0.f_parens)], oR false 9 1 (List.map z0a a0.f_out)] (z49 r) (z4a r)) (ih_ast_writer_expr_1 : ∀ (a0 : z01) (a1 : z05) (r : z01), z3m n a0 a1 = some r → Cs Tryz.prog (GX X) 144 [xP 0 0, xP 3 0] [oB 162 [.box 1 0], oB 164 [.row 2, .pv (.bool a0.f_form), .pv (.bool a0.f_deep), .pv (.int .i64 a0.f_blocks), .pv (.int .i64 a0.f_parens)], oR false 9 1 (List.map z0a a0.f_out), oB 154 (bs (z0p a1))] (z5a r) (z5b a1 r)) (ih_ast_writer_deeper_ast_writer_kid_1 : ∀ (a0 : z01) (a1011 : z05) (r : z01), z13 n a0 a1011 = some r → Cs Tryz.prog (GX X) 143 [xP 0 0, .fn (.func 158) [] [.box 2 0, .box 3 0]] [oB 164 [.row 1, .pv (.bool a0.f_form), .pv (.bool a0.f_deep), .pv (.int .i64 a0.f_blocks), .pv (.int .i64 a0.f_parens)], oR false 9 1 (List.map z0a a0.f_out), oB 162 [.box 0 0], oB 154 (bs (z0p a1011))] (z1u r) (z1v a1011 r)) (ih_ast_writer_kid_1 : ∀ (a0 : z01) (a1 : z05) (r : z01), z3t n a0 a1 = some r → Cs Tryz.prog (GX X) 158 [xP 0 0, xP 3 0] [oB 162 [.box 1 0], oB 164 [.row 2, .pv (.bool a0.f_form), .pv (.bool a0.f_deep), .pv (.int .i64 a0.f_blocks), .pv (.int .i64 a0.f_parens)], oR false 9 1 (List.map z0a a0.f_out), oB 154 (bs (z0p a1))] (z5f r) (z5g a1 r)) (a0 : z01) (a1 : z05) (r : z01) (h : z2a (n + 1) a0 a1 = some r) : Cs Tryz.prog (GX X) 130 [xP 0 0, .agg (bs (z0p a1))] [oB 164 [.row 1, .pv (.bool a0.f_form), .pv (.bool a0.f_deep), .pv (.int .i64 a0.f_blocks), .pv (.int .i64 a0.f_parens)], oR false 9 1 (List.map z0a a0.f_out)] (z3h r) (z3i r) := by
 refine fnT (cx := cx X) Tryz.f130 Tryz.call130 Tryz.func130 (by kernel_rfl) ?_
 rw [z2a] at h
 refine adv (ok X) 4 [] pT (by kernel_rfl) ?_
 refine jn (ok X) 1 (fun (j1 : Bool) => ⟨80, 2, [(2, [xP 2 0]), (3, [xP 3 0]), (9, [xB j1])], [oB 164 [.row 1, .pv (.bool a0.f_form), .pv (.bool a0.f_deep), .pv (.int .i64 a0.f_blocks), .pv (.int .i64 a0.f_parens)], oR false 9 1 (List.map z0a a0.f_out), oB 162 [.box 0 0], oB 154 (bs (z0p a1))]⟩) h (fun j1 h => ?_) (fun j1 h => ?_)
 ·rcases iteE h with ⟨k1, h⟩ | ⟨k1, h⟩
  ·obtain rfl := retE h
   exact fin (ok X) 1 (bT 3 [.i (a1.Kids.length : Int), .b true, .b true]) (pR 3 k1 (pA (lm z2s a1.Kids) (pA k1 (pA k1 pT)))) (by kernel_rfl)
  ·obtain rfl := retE h
   exact fin (ok X) 1 (bF 5 []) (pR 5 k1 pT) (by kernel_rfl)
 ·rcases iteE h with ⟨k2, h⟩ | ⟨k2, h⟩
  ·obtain ⟨v1, k3, h⟩ := z07 h
   obtain ⟨v2, k4, h⟩ := z07 h
   obtain rfl := retE h
   exact fin (ok X) 5 [.b true, .s (z0j v1) (z0k v1), .s (z1r v2) (z1s a1 v2)] (pA k2 (pA (z0l (X := X) k3) (pA (ih_ast_writer_deeper_ast_writer_expr_1 _ _ _ k4) pT))) (by kernel_rfl)
  ·refine adv (ok X) 2 [.b false] (pA k2 pT) (by kernel_rfl) ?_
   refine jn (ok X) 1 (fun (j2 : Bool) => ⟨80, 2, [(2, [xP 2 0]), (3, [xP 3 0]), (25, [xB j2])], [oB 164 [.row 1, .pv (.bool a0.f_form), .pv (.bool a0.f_deep), .pv (.int .i64 a0.f_blocks), .pv (.int .i64 a0.f_parens)], oR false 9 1 (List.map z0a a0.f_out), oB 162 [.box 0 0], oB 154 (bs (z0p a1))]⟩) h (fun j2 h => ?_) (fun j2 h => ?_)
   ·obtain ⟨v3, k5, h⟩ := z07 h
    rcases iteE h with ⟨k6, h⟩ | ⟨k6, h⟩
    ·obtain rfl := retE h
     exact fin (ok X) 1 (.c (zeg v3) :: bT 3 [.i (a1.Kids.length : Int), .b true, .b true]) (pA (zi9 (X := X) k5) (pR 3 k6 (pA (lm z2s a1.Kids) (pA k6 (pA k6 pT))))) (by kernel_rfl)
    ·obtain rfl := retE h
     exact fin (ok X) 1 (.c (zeg v3) :: bF 5 []) (pA (zi9 (X := X) k5) (pR 5 k6 pT)) (by kernel_rfl)
   ·rcases iteE h with ⟨k7, h⟩ | ⟨k7, h⟩
    ·obtain ⟨v4, k8, h⟩ := z07 h
     obtain ⟨v5, k9, h⟩ := z07 h
     refine adv (ok X) 4 [.b true, .o [0, 1, 2, 3, 4, 5, 6, 7, 8, 9, 10, 11], .e (z0p v4), .e (z0p v5)] (pA k7 (pA (ixr z65 k8) (pA (ixr z65 k9) pT))) (by kernel_rfl) ?_
     refine jn (ok X) 1 (fun (j3 : (Bool × Bool × Int × Int × (List ByteArray))) => ⟨80, 2, [(2, [xP 2 0]), (3, [xP 3 0]), (5, [xP 5 0])], [oB 164 [.row 1, .pv (.bool j3.1), .pv (.bool j3.2.1), .pv (.int .i64 j3.2.2.1), .pv (.int .i64 j3.2.2.2.1)], oR true 9 1 (List.map z0a j3.2.2.2.2), oB 162 [.box 0 0], oB 154 (bs (z0p a1)), none, oB 154 (bs (z0p v5))]⟩) h (fun j3 h => ?_) (fun j3 h => ?_)
     ·obtain ⟨v6, k10, h⟩ := z07 h
      rcases iteE h with ⟨k11, h⟩ | ⟨k11, h⟩
      ·obtain ⟨v7, k12, h⟩ := z07 h
       obtain ⟨v8, k13, h⟩ := z07 h
       obtain rfl := retE h
       exact fin (ok X) 1 (.o [0, 1, 2, 3, 4, 5, 6, 7, 8, 9, 10, 11] :: .c (zb1 v6) :: bT 3 [.c (zb1 v7), .b true, .s (z49 v8) (z4a v8)]) (pA (zdn (X := X) k10) (pR 3 k11 (pA (zdn (X := X) k12) (pA k11 (pA (ih_ast_writer_kid _ _ _ _ k13) pT))))) (by kernel_rfl)
      ·obtain ⟨v9, k14, h⟩ := z07 h
       obtain rfl := retE h
       exact fin (ok X) 1 (.o [0, 1, 2, 3, 4, 5, 6, 7, 8, 9, 10, 11] :: .c (zb1 v6) :: bF 4 [.s (z49 v9) (z4a v9)]) (pA (zdn (X := X) k10) (pR 4 k11 (pA (ih_ast_writer_kid _ _ _ _ k14) pT))) (by kernel_rfl)
     ·obtain ⟨v10, k15, h⟩ := z07 h
      obtain ⟨v11, k16, h⟩ := z07 h
      refine adv (ok X) 2 [.o [0, 1, 2, 3, 4, 5, 6, 7], .e [.str v10], .s (z0j v11) (z0k v11)] (pA (ixm z0a k15) (pA (z0l (X := X) k16) pT)) (by kernel_rfl) ?_
      obtain ⟨v12, k17, h⟩ := z07 h
      rcases iteE h with ⟨k18, h⟩ | ⟨k18, h⟩
      ·obtain ⟨v13, k19, h⟩ := z07 h
       obtain rfl := retE h
       exact fin (ok X) 2 (.o [0, 1, 2, 3, 4, 5, 6, 7, 8, 9, 10, 11, 12, 13, 14, 15, 16] :: .c (zb1 v12) :: bT 7 [.s (z49 v13) (z4a v13)]) (pA (zdn (X := X) k17) (pR 7 k18 (pA (ih_ast_writer_kid _ _ _ _ k19) pT))) (by kernel_rfl)
      ·obtain ⟨v14, k20, h⟩ := z07 h
       rcases iteE h with ⟨k21, h⟩ | ⟨k21, h⟩
       ·obtain ⟨v15, k22, h⟩ := z07 h
        obtain ⟨v16, k23, h⟩ := z07 h
        obtain rfl := retE h
        exact fin (ok X) 2 (.o [0, 1, 2, 3, 4, 5, 6, 7, 8, 9, 10, 11, 12, 13, 14, 15, 16] :: .c (zb1 v12) :: bF 3 (.c (zb1 v14) :: .b false :: .b false :: bT 3 [.c (zeg v15), .b false, .b true, .b false, .s (z49 v16) (z4a v16)])) (pA (zdn (X := X) k17) (pR 3 k18 (pA (zdn (X := X) k20) (pA k18 (pA k18 (pR 3 k21 (pA (zi9 (X := X) k22) (pA k18 (pA k21 (pA k18 (pA (ih_ast_writer_kid _ _ _ _ k23) pT))))))))))) (by kernel_rfl)
       ·obtain ⟨v17, k24, h⟩ := z07 h
        obtain rfl := retE h
        exact fin (ok X) 2 (.o [0, 1, 2, 3, 4, 5, 6, 7, 8, 9, 10, 11, 12, 13, 14, 15, 16] :: .c (zb1 v12) :: bF 3 (.c (zb1 v14) :: bF 8 [.s (z49 v17) (z4a v17)])) (pA (zdn (X := X) k17) (pR 3 k18 (pA (zdn (X := X) k20) (pA k18 (pA k18 (pR 3 k21 (pA k18 (pA k21 (pA k18 (pA (ih_ast_writer_kid _ _ _ _ k24) pT)))))))))) (by kernel_rfl)
    ·obtain ⟨v18, k25, h⟩ := z07 h
     obtain rfl := retE h
     exact fin (ok X) 3 [.b false, .s (zg6 v18) (zg7 v18)] (pA k7 (pA (zlo (X := X) k25) pT)) (by kernel_rfl)

theorem zax {n : Nat} (ih_ast_writer_expr : ∀ (a0 : z01) (a1 : z05) (r : z01), z2a n a0 a1 = some r → Cs Tryz.prog (GX X) 130 [xP 0 0, .agg (bs (z0p a1))] [oB 164 [.row 1, .pv (.bool a0.f_form), .pv (.bool a0.f_deep), .pv (.int .i64 a0.f_blocks), .pv (.int .i64 a0.f_parens)], oR false 9 1 (List.map z0a a0.f_out)] (z3h r) (z3i r)) (ih_ast_writer_deeper_ast_writer_expr_1 : ∀ (a0 : z01) (a1011 : z05) (r : z01), z12 n a0 a1011 = some r → Cs Tryz.prog (GX X) 143 [xP 0 0, .fn (.func 144) [] [.box 2 0, .box 3 0]] [oB 164 [.row 1, .pv (.bool a0.f_form), .pv (.bool a0.f_deep), .pv (.int .i64 a0.f_blocks), .pv (.int .i64 a0.f_parens)], oR false 9 1 (List.map z0a a0.f_out), oB 162 [.box 0 0], oB 154 (bs (z0p a1011))] (z1r r) (z1s a1011 r)) (ih_ast_writer_kid : ∀ (a0 : z01) (a1 : z05) (a2 : Bool) (r : z01), z2d n a0 a1 a2 = some r → Cs Tryz.prog (GX X) 145 [xP 0 0, .agg (bs (z0p a1)), xB a2] [oB 164 [.row 1, .pv (.bool a0.f_form), .pv (.bool a0.f_deep), .pv (.int .i64 a0.f_blocks), .pv (.int .i64 a0.f_parens)], oR false 9 1 (List.map z0a a0.f_out)] (z49 r) (z4a r)) (ih_ast_writer_expr_1 : ∀ (a0 : z01) (a1 : z05) (r : z01), z3m n a0 a1 = some r → Cs Tryz.prog (GX X) 144 [xP 0 0, xP 3 0] [oB 162 [.box 1 0], oB 164 [.row 2, .pv (.bool a0.f_form), .pv (.bool a0.f_deep), .pv (.int .i64 a0.f_blocks), .pv (.int .i64 a0.f_parens)], oR false 9 1 (List.map z0a a0.f_out), oB 154 (bs (z0p a1))] (z5a r) (z5b a1 r)) (ih_ast_writer_deeper_ast_writer_kid_1 : ∀ (a0 : z01) (a1011 : z05) (r : z01), z13 n a0 a1011 = some r → Cs Tryz.prog (GX X) 143 [xP 0 0, .fn (.func 158) [] [.box 2 0, .box 3 0]] [oB 164 [.row 1, .pv (.bool a0.f_form), .pv (.bool a0.f_deep), .pv (.int .i64 a0.f_blocks), .pv (.int .i64 a0.f_parens)], oR false 9 1 (List.map z0a a0.f_out), oB 162 [.box 0 0], oB 154 (bs (z0p a1011))] (z1u r) (z1v a1011 r)) (ih_ast_writer_kid_1 : ∀ (a0 : z01) (a1 : z05) (r : z01), z3t n a0 a1 = some r → Cs Tryz.prog (GX X) 158 [xP 0 0, xP 3 0] [oB 162 [.box 1 0], oB 164 [.row 2, .pv (.bool a0.f_form), .pv (.bool a0.f_deep), .pv (.int .i64 a0.f_blocks), .pv (.int .i64 a0.f_parens)], oR false 9 1 (List.map z0a a0.f_out), oB 154 (bs (z0p a1))] (z5f r) (z5g a1 r)) (a0 : z01) (a1011 : z05) (r : z01) (h : z12 (n + 1) a0 a1011 = some r) : Cs Tryz.prog (GX X) 143 [xP 0 0, .fn (.func 144) [] [.box 2 0, .box 3 0]] [oB 164 [.row 1, .pv (.bool a0.f_form), .pv (.bool a0.f_deep), .pv (.int .i64 a0.f_blocks), .pv (.int .i64 a0.f_parens)], oR false 9 1 (List.map z0a a0.f_out), oB 162 [.box 0 0], oB 154 (bs (z0p a1011))] (z1r r) (z1s a1011 r) := by
 refine fnT (cx := cx X) Tryz.f143 Tryz.call143 Tryz.func143 (by kernel_rfl) ?_
 rw [z12] at h
 refine adv (ok X) 3 [] pT (by kernel_rfl) ?_
 refine jn (ok X) 1 (fun (j1 : Bool) => ⟨34, 4, [(0, [xP 0 0]), (1, [.fn (.func 144) [] [.box 2 0, .box 3 0]])], [oB 164 [.row 1, .pv (.bool a0.f_form), .pv (.bool j1), .pv (.int .i64 a0.f_blocks), .pv (.int .i64 (IntKind.i64.wrap (a0.f_parens + 1)))], oR false 9 1 (List.map z0a a0.f_out), oB 162 [.box 0 0], oB 154 (bs (z0p a1011))]⟩) h (fun j1 h => ?_) (fun j1 h => ?_)
 ·rcases iteE h with ⟨k1, h⟩ | ⟨k1, h⟩
  ·obtain rfl := retE h
   exact fin (ok X) 1 (bT 6 []) (pR 6 k1 pT) (by kernel_rfl)
  ·obtain rfl := retE h
   exact fin (ok X) 1 (bF 6 []) (pR 6 k1 pT) (by kernel_rfl)
 ·obtain ⟨v1, k2, h⟩ := z07 h
  obtain rfl := retE h
  exact fin (ok X) 3 [.s (z5a v1) (z5b a1011 v1)] (pA (ih_ast_writer_expr_1 _ _ _ k2) pT) (by kernel_rfl)

theorem zmd {n : Nat} (ih_ast_writer_expr : ∀ (a0 : z01) (a1 : z05) (r : z01), z2a n a0 a1 = some r → Cs Tryz.prog (GX X) 130 [xP 0 0, .agg (bs (z0p a1))] [oB 164 [.row 1, .pv (.bool a0.f_form), .pv (.bool a0.f_deep), .pv (.int .i64 a0.f_blocks), .pv (.int .i64 a0.f_parens)], oR false 9 1 (List.map z0a a0.f_out)] (z3h r) (z3i r)) (ih_ast_writer_deeper_ast_writer_expr_1 : ∀ (a0 : z01) (a1011 : z05) (r : z01), z12 n a0 a1011 = some r → Cs Tryz.prog (GX X) 143 [xP 0 0, .fn (.func 144) [] [.box 2 0, .box 3 0]] [oB 164 [.row 1, .pv (.bool a0.f_form), .pv (.bool a0.f_deep), .pv (.int .i64 a0.f_blocks), .pv (.int .i64 a0.f_parens)], oR false 9 1 (List.map z0a a0.f_out), oB 162 [.box 0 0], oB 154 (bs (z0p a1011))] (z1r r) (z1s a1011 r)) (ih_ast_writer_kid : ∀ (a0 : z01) (a1 : z05) (a2 : Bool) (r : z01), z2d n a0 a1 a2 = some r → Cs Tryz.prog (GX X) 145 [xP 0 0, .agg (bs (z0p a1)), xB a2] [oB 164 [.row 1, .pv (.bool a0.f_form), .pv (.bool a0.f_deep), .pv (.int .i64 a0.f_blocks), .pv (.int .i64 a0.f_parens)], oR false 9 1 (List.map z0a a0.f_out)] (z49 r) (z4a r)) (ih_ast_writer_expr_1 : ∀ (a0 : z01) (a1 : z05) (r : z01), z3m n a0 a1 = some r → Cs Tryz.prog (GX X) 144 [xP 0 0, xP 3 0] [oB 162 [.box 1 0], oB 164 [.row 2, .pv (.bool a0.f_form), .pv (.bool a0.f_deep), .pv (.int .i64 a0.f_blocks), .pv (.int .i64 a0.f_parens)], oR false 9 1 (List.map z0a a0.f_out), oB 154 (bs (z0p a1))] (z5a r) (z5b a1 r)) (ih_ast_writer_deeper_ast_writer_kid_1 : ∀ (a0 : z01) (a1011 : z05) (r : z01), z13 n a0 a1011 = some r → Cs Tryz.prog (GX X) 143 [xP 0 0, .fn (.func 158) [] [.box 2 0, .box 3 0]] [oB 164 [.row 1, .pv (.bool a0.f_form), .pv (.bool a0.f_deep), .pv (.int .i64 a0.f_blocks), .pv (.int .i64 a0.f_parens)], oR false 9 1 (List.map z0a a0.f_out), oB 162 [.box 0 0], oB 154 (bs (z0p a1011))] (z1u r) (z1v a1011 r)) (ih_ast_writer_kid_1 : ∀ (a0 : z01) (a1 : z05) (r : z01), z3t n a0 a1 = some r → Cs Tryz.prog (GX X) 158 [xP 0 0, xP 3 0] [oB 162 [.box 1 0], oB 164 [.row 2, .pv (.bool a0.f_form), .pv (.bool a0.f_deep), .pv (.int .i64 a0.f_blocks), .pv (.int .i64 a0.f_parens)], oR false 9 1 (List.map z0a a0.f_out), oB 154 (bs (z0p a1))] (z5f r) (z5g a1 r)) (a0 : z01) (a1 : z05) (a2 : Bool) (r : z01) (h : z2d (n + 1) a0 a1 a2 = some r) : Cs Tryz.prog (GX X) 145 [xP 0 0, .agg (bs (z0p a1)), xB a2] [oB 164 [.row 1, .pv (.bool a0.f_form), .pv (.bool a0.f_deep), .pv (.int .i64 a0.f_blocks), .pv (.int .i64 a0.f_parens)], oR false 9 1 (List.map z0a a0.f_out)] (z49 r) (z4a r) := by
 refine fnT (cx := cx X) Tryz.f145 Tryz.call145 Tryz.func145 (by kernel_rfl) ?_
 rw [z2d] at h
 rcases iteE h with ⟨k1, h⟩ | ⟨k1, h⟩
 ·obtain ⟨v1, k2, h⟩ := z07 h
  obtain rfl := retE h
  exact fin (ok X) 9 [.b true, .s (z3h v1) (z3i v1)] (pA k1 (pA (ih_ast_writer_expr _ _ _ k2) pT)) (by kernel_rfl)
 ·obtain ⟨v2, k3, h⟩ := z07 h
  obtain ⟨v3, k4, h⟩ := z07 h
  obtain ⟨v4, k5, h⟩ := z07 h
  obtain rfl := retE h
  exact fin (ok X) 12 [.b false, .s (z0j v2) (z0k v2), .s (z1u v3) (z1v a1 v3), .s (z0j v4) (z0k v4)] (pA k1 (pA (z0l (X := X) k3) (pA (ih_ast_writer_deeper_ast_writer_kid_1 _ _ _ k4) (pA (z0l (X := X) k5) pT)))) (by kernel_rfl)

theorem zjo {n : Nat} (ih_ast_writer_expr : ∀ (a0 : z01) (a1 : z05) (r : z01), z2a n a0 a1 = some r → Cs Tryz.prog (GX X) 130 [xP 0 0, .agg (bs (z0p a1))] [oB 164 [.row 1, .pv (.bool a0.f_form), .pv (.bool a0.f_deep), .pv (.int .i64 a0.f_blocks), .pv (.int .i64 a0.f_parens)], oR false 9 1 (List.map z0a a0.f_out)] (z3h r) (z3i r)) (ih_ast_writer_deeper_ast_writer_expr_1 : ∀ (a0 : z01) (a1011 : z05) (r : z01), z12 n a0 a1011 = some r → Cs Tryz.prog (GX X) 143 [xP 0 0, .fn (.func 144) [] [.box 2 0, .box 3 0]] [oB 164 [.row 1, .pv (.bool a0.f_form), .pv (.bool a0.f_deep), .pv (.int .i64 a0.f_blocks), .pv (.int .i64 a0.f_parens)], oR false 9 1 (List.map z0a a0.f_out), oB 162 [.box 0 0], oB 154 (bs (z0p a1011))] (z1r r) (z1s a1011 r)) (ih_ast_writer_kid : ∀ (a0 : z01) (a1 : z05) (a2 : Bool) (r : z01), z2d n a0 a1 a2 = some r → Cs Tryz.prog (GX X) 145 [xP 0 0, .agg (bs (z0p a1)), xB a2] [oB 164 [.row 1, .pv (.bool a0.f_form), .pv (.bool a0.f_deep), .pv (.int .i64 a0.f_blocks), .pv (.int .i64 a0.f_parens)], oR false 9 1 (List.map z0a a0.f_out)] (z49 r) (z4a r)) (ih_ast_writer_expr_1 : ∀ (a0 : z01) (a1 : z05) (r : z01), z3m n a0 a1 = some r → Cs Tryz.prog (GX X) 144 [xP 0 0, xP 3 0] [oB 162 [.box 1 0], oB 164 [.row 2, .pv (.bool a0.f_form), .pv (.bool a0.f_deep), .pv (.int .i64 a0.f_blocks), .pv (.int .i64 a0.f_parens)], oR false 9 1 (List.map z0a a0.f_out), oB 154 (bs (z0p a1))] (z5a r) (z5b a1 r)) (ih_ast_writer_deeper_ast_writer_kid_1 : ∀ (a0 : z01) (a1011 : z05) (r : z01), z13 n a0 a1011 = some r → Cs Tryz.prog (GX X) 143 [xP 0 0, .fn (.func 158) [] [.box 2 0, .box 3 0]] [oB 164 [.row 1, .pv (.bool a0.f_form), .pv (.bool a0.f_deep), .pv (.int .i64 a0.f_blocks), .pv (.int .i64 a0.f_parens)], oR false 9 1 (List.map z0a a0.f_out), oB 162 [.box 0 0], oB 154 (bs (z0p a1011))] (z1u r) (z1v a1011 r)) (ih_ast_writer_kid_1 : ∀ (a0 : z01) (a1 : z05) (r : z01), z3t n a0 a1 = some r → Cs Tryz.prog (GX X) 158 [xP 0 0, xP 3 0] [oB 162 [.box 1 0], oB 164 [.row 2, .pv (.bool a0.f_form), .pv (.bool a0.f_deep), .pv (.int .i64 a0.f_blocks), .pv (.int .i64 a0.f_parens)], oR false 9 1 (List.map z0a a0.f_out), oB 154 (bs (z0p a1))] (z5f r) (z5g a1 r)) (a0 : z01) (a1 : z05) (r : z01) (h : z3m (n + 1) a0 a1 = some r) : Cs Tryz.prog (GX X) 144 [xP 0 0, xP 3 0] [oB 162 [.box 1 0], oB 164 [.row 2, .pv (.bool a0.f_form), .pv (.bool a0.f_deep), .pv (.int .i64 a0.f_blocks), .pv (.int .i64 a0.f_parens)], oR false 9 1 (List.map z0a a0.f_out), oB 154 (bs (z0p a1))] (z5a r) (z5b a1 r) := by
 refine fnT (cx := cx X) Tryz.f144 Tryz.call144 Tryz.func144 (by kernel_rfl) ?_
 rw [z3m] at h
 obtain ⟨v1, k1, h⟩ := z07 h
 obtain ⟨v2, k2, h⟩ := z07 h
 obtain ⟨v3, k3, h⟩ := z07 h
 obtain rfl := retE h
 exact fin (ok X) 1 [.o [0, 1, 2, 3, 4, 5, 6, 7, 8, 9, 10, 11], .e (z0p v1), .e (z0p v1), .c (zeg v2), .s (z49 v3) (z4a v3)] (pA (ixr z65 k1) (pA (ixr z65 k1) (pA (zi9 (X := X) k2) (pA (ih_ast_writer_kid _ _ _ _ k3) pT)))) (by kernel_rfl)

theorem zb3 {n : Nat} (ih_ast_writer_expr : ∀ (a0 : z01) (a1 : z05) (r : z01), z2a n a0 a1 = some r → Cs Tryz.prog (GX X) 130 [xP 0 0, .agg (bs (z0p a1))] [oB 164 [.row 1, .pv (.bool a0.f_form), .pv (.bool a0.f_deep), .pv (.int .i64 a0.f_blocks), .pv (.int .i64 a0.f_parens)], oR false 9 1 (List.map z0a a0.f_out)] (z3h r) (z3i r)) (ih_ast_writer_deeper_ast_writer_expr_1 : ∀ (a0 : z01) (a1011 : z05) (r : z01), z12 n a0 a1011 = some r → Cs Tryz.prog (GX X) 143 [xP 0 0, .fn (.func 144) [] [.box 2 0, .box 3 0]] [oB 164 [.row 1, .pv (.bool a0.f_form), .pv (.bool a0.f_deep), .pv (.int .i64 a0.f_blocks), .pv (.int .i64 a0.f_parens)], oR false 9 1 (List.map z0a a0.f_out), oB 162 [.box 0 0], oB 154 (bs (z0p a1011))] (z1r r) (z1s a1011 r)) (ih_ast_writer_kid : ∀ (a0 : z01) (a1 : z05) (a2 : Bool) (r : z01), z2d n a0 a1 a2 = some r → Cs Tryz.prog (GX X) 145 [xP 0 0, .agg (bs (z0p a1)), xB a2] [oB 164 [.row 1, .pv (.bool a0.f_form), .pv (.bool a0.f_deep), .pv (.int .i64 a0.f_blocks), .pv (.int .i64 a0.f_parens)], oR false 9 1 (List.map z0a a0.f_out)] (z49 r) (z4a r)) (ih_ast_writer_expr_1 : ∀ (a0 : z01) (a1 : z05) (r : z01), z3m n a0 a1 = some r → Cs Tryz.prog (GX X) 144 [xP 0 0, xP 3 0] [oB 162 [.box 1 0], oB 164 [.row 2, .pv (.bool a0.f_form), .pv (.bool a0.f_deep), .pv (.int .i64 a0.f_blocks), .pv (.int .i64 a0.f_parens)], oR false 9 1 (List.map z0a a0.f_out), oB 154 (bs (z0p a1))] (z5a r) (z5b a1 r)) (ih_ast_writer_deeper_ast_writer_kid_1 : ∀ (a0 : z01) (a1011 : z05) (r : z01), z13 n a0 a1011 = some r → Cs Tryz.prog (GX X) 143 [xP 0 0, .fn (.func 158) [] [.box 2 0, .box 3 0]] [oB 164 [.row 1, .pv (.bool a0.f_form), .pv (.bool a0.f_deep), .pv (.int .i64 a0.f_blocks), .pv (.int .i64 a0.f_parens)], oR false 9 1 (List.map z0a a0.f_out), oB 162 [.box 0 0], oB 154 (bs (z0p a1011))] (z1u r) (z1v a1011 r)) (ih_ast_writer_kid_1 : ∀ (a0 : z01) (a1 : z05) (r : z01), z3t n a0 a1 = some r → Cs Tryz.prog (GX X) 158 [xP 0 0, xP 3 0] [oB 162 [.box 1 0], oB 164 [.row 2, .pv (.bool a0.f_form), .pv (.bool a0.f_deep), .pv (.int .i64 a0.f_blocks), .pv (.int .i64 a0.f_parens)], oR false 9 1 (List.map z0a a0.f_out), oB 154 (bs (z0p a1))] (z5f r) (z5g a1 r)) (a0 : z01) (a1011 : z05) (r : z01) (h : z13 (n + 1) a0 a1011 = some r) : Cs Tryz.prog (GX X) 143 [xP 0 0, .fn (.func 158) [] [.box 2 0, .box 3 0]] [oB 164 [.row 1, .pv (.bool a0.f_form), .pv (.bool a0.f_deep), .pv (.int .i64 a0.f_blocks), .pv (.int .i64 a0.f_parens)], oR false 9 1 (List.map z0a a0.f_out), oB 162 [.box 0 0], oB 154 (bs (z0p a1011))] (z1u r) (z1v a1011 r) := by
 refine fnT (cx := cx X) Tryz.f143 Tryz.call143 Tryz.func143 (by kernel_rfl) ?_
 rw [z13] at h
 refine adv (ok X) 3 [] pT (by kernel_rfl) ?_
 refine jn (ok X) 1 (fun (j1 : Bool) => ⟨34, 4, [(0, [xP 0 0]), (1, [.fn (.func 158) [] [.box 2 0, .box 3 0]])], [oB 164 [.row 1, .pv (.bool a0.f_form), .pv (.bool j1), .pv (.int .i64 a0.f_blocks), .pv (.int .i64 (IntKind.i64.wrap (a0.f_parens + 1)))], oR false 9 1 (List.map z0a a0.f_out), oB 162 [.box 0 0], oB 154 (bs (z0p a1011))]⟩) h (fun j1 h => ?_) (fun j1 h => ?_)
 ·rcases iteE h with ⟨k1, h⟩ | ⟨k1, h⟩
  ·obtain rfl := retE h
   exact fin (ok X) 1 (bT 6 []) (pR 6 k1 pT) (by kernel_rfl)
  ·obtain rfl := retE h
   exact fin (ok X) 1 (bF 6 []) (pR 6 k1 pT) (by kernel_rfl)
 ·obtain ⟨v1, k2, h⟩ := z07 h
  obtain rfl := retE h
  exact fin (ok X) 3 [.s (z5f v1) (z5g a1011 v1)] (pA (ih_ast_writer_kid_1 _ _ _ k2) pT) (by kernel_rfl)

theorem zkn {n : Nat} (ih_ast_writer_expr : ∀ (a0 : z01) (a1 : z05) (r : z01), z2a n a0 a1 = some r → Cs Tryz.prog (GX X) 130 [xP 0 0, .agg (bs (z0p a1))] [oB 164 [.row 1, .pv (.bool a0.f_form), .pv (.bool a0.f_deep), .pv (.int .i64 a0.f_blocks), .pv (.int .i64 a0.f_parens)], oR false 9 1 (List.map z0a a0.f_out)] (z3h r) (z3i r)) (ih_ast_writer_deeper_ast_writer_expr_1 : ∀ (a0 : z01) (a1011 : z05) (r : z01), z12 n a0 a1011 = some r → Cs Tryz.prog (GX X) 143 [xP 0 0, .fn (.func 144) [] [.box 2 0, .box 3 0]] [oB 164 [.row 1, .pv (.bool a0.f_form), .pv (.bool a0.f_deep), .pv (.int .i64 a0.f_blocks), .pv (.int .i64 a0.f_parens)], oR false 9 1 (List.map z0a a0.f_out), oB 162 [.box 0 0], oB 154 (bs (z0p a1011))] (z1r r) (z1s a1011 r)) (ih_ast_writer_kid : ∀ (a0 : z01) (a1 : z05) (a2 : Bool) (r : z01), z2d n a0 a1 a2 = some r → Cs Tryz.prog (GX X) 145 [xP 0 0, .agg (bs (z0p a1)), xB a2] [oB 164 [.row 1, .pv (.bool a0.f_form), .pv (.bool a0.f_deep), .pv (.int .i64 a0.f_blocks), .pv (.int .i64 a0.f_parens)], oR false 9 1 (List.map z0a a0.f_out)] (z49 r) (z4a r)) (ih_ast_writer_expr_1 : ∀ (a0 : z01) (a1 : z05) (r : z01), z3m n a0 a1 = some r → Cs Tryz.prog (GX X) 144 [xP 0 0, xP 3 0] [oB 162 [.box 1 0], oB 164 [.row 2, .pv (.bool a0.f_form), .pv (.bool a0.f_deep), .pv (.int .i64 a0.f_blocks), .pv (.int .i64 a0.f_parens)], oR false 9 1 (List.map z0a a0.f_out), oB 154 (bs (z0p a1))] (z5a r) (z5b a1 r)) (ih_ast_writer_deeper_ast_writer_kid_1 : ∀ (a0 : z01) (a1011 : z05) (r : z01), z13 n a0 a1011 = some r → Cs Tryz.prog (GX X) 143 [xP 0 0, .fn (.func 158) [] [.box 2 0, .box 3 0]] [oB 164 [.row 1, .pv (.bool a0.f_form), .pv (.bool a0.f_deep), .pv (.int .i64 a0.f_blocks), .pv (.int .i64 a0.f_parens)], oR false 9 1 (List.map z0a a0.f_out), oB 162 [.box 0 0], oB 154 (bs (z0p a1011))] (z1u r) (z1v a1011 r)) (ih_ast_writer_kid_1 : ∀ (a0 : z01) (a1 : z05) (r : z01), z3t n a0 a1 = some r → Cs Tryz.prog (GX X) 158 [xP 0 0, xP 3 0] [oB 162 [.box 1 0], oB 164 [.row 2, .pv (.bool a0.f_form), .pv (.bool a0.f_deep), .pv (.int .i64 a0.f_blocks), .pv (.int .i64 a0.f_parens)], oR false 9 1 (List.map z0a a0.f_out), oB 154 (bs (z0p a1))] (z5f r) (z5g a1 r)) (a0 : z01) (a1 : z05) (r : z01) (h : z3t (n + 1) a0 a1 = some r) : Cs Tryz.prog (GX X) 158 [xP 0 0, xP 3 0] [oB 162 [.box 1 0], oB 164 [.row 2, .pv (.bool a0.f_form), .pv (.bool a0.f_deep), .pv (.int .i64 a0.f_blocks), .pv (.int .i64 a0.f_parens)], oR false 9 1 (List.map z0a a0.f_out), oB 154 (bs (z0p a1))] (z5f r) (z5g a1 r) := by
 refine fnT (cx := cx X) Tryz.f158 Tryz.call158 Tryz.func158 (by kernel_rfl) ?_
 rw [z3t] at h
 obtain ⟨v1, k1, h⟩ := z07 h
 obtain rfl := retE h
 exact fin (ok X) 1 [.s (z3h v1) (z3i v1)] (pA (ih_ast_writer_expr _ _ _ k1) pT) (by kernel_rfl)

theorem zf4 : ∀ n : Nat, (∀ (a0 : z01) (a1 : z05) (r : z01), z2a n a0 a1 = some r → Cs Tryz.prog (GX X) 130 [xP 0 0, .agg (bs (z0p a1))] [oB 164 [.row 1, .pv (.bool a0.f_form), .pv (.bool a0.f_deep), .pv (.int .i64 a0.f_blocks), .pv (.int .i64 a0.f_parens)], oR false 9 1 (List.map z0a a0.f_out)] (z3h r) (z3i r)) ∧ (∀ (a0 : z01) (a1011 : z05) (r : z01), z12 n a0 a1011 = some r → Cs Tryz.prog (GX X) 143 [xP 0 0, .fn (.func 144) [] [.box 2 0, .box 3 0]] [oB 164 [.row 1, .pv (.bool a0.f_form), .pv (.bool a0.f_deep), .pv (.int .i64 a0.f_blocks), .pv (.int .i64 a0.f_parens)], oR false 9 1 (List.map z0a a0.f_out), oB 162 [.box 0 0], oB 154 (bs (z0p a1011))] (z1r r) (z1s a1011 r)) ∧ (∀ (a0 : z01) (a1 : z05) (a2 : Bool) (r : z01), z2d n a0 a1 a2 = some r → Cs Tryz.prog (GX X) 145 [xP 0 0, .agg (bs (z0p a1)), xB a2] [oB 164 [.row 1, .pv (.bool a0.f_form), .pv (.bool a0.f_deep), .pv (.int .i64 a0.f_blocks), .pv (.int .i64 a0.f_parens)], oR false 9 1 (List.map z0a a0.f_out)] (z49 r) (z4a r)) ∧ (∀ (a0 : z01) (a1 : z05) (r : z01), z3m n a0 a1 = some r → Cs Tryz.prog (GX X) 144 [xP 0 0, xP 3 0] [oB 162 [.box 1 0], oB 164 [.row 2, .pv (.bool a0.f_form), .pv (.bool a0.f_deep), .pv (.int .i64 a0.f_blocks), .pv (.int .i64 a0.f_parens)], oR false 9 1 (List.map z0a a0.f_out), oB 154 (bs (z0p a1))] (z5a r) (z5b a1 r)) ∧ (∀ (a0 : z01) (a1011 : z05) (r : z01), z13 n a0 a1011 = some r → Cs Tryz.prog (GX X) 143 [xP 0 0, .fn (.func 158) [] [.box 2 0, .box 3 0]] [oB 164 [.row 1, .pv (.bool a0.f_form), .pv (.bool a0.f_deep), .pv (.int .i64 a0.f_blocks), .pv (.int .i64 a0.f_parens)], oR false 9 1 (List.map z0a a0.f_out), oB 162 [.box 0 0], oB 154 (bs (z0p a1011))] (z1u r) (z1v a1011 r)) ∧ (∀ (a0 : z01) (a1 : z05) (r : z01), z3t n a0 a1 = some r → Cs Tryz.prog (GX X) 158 [xP 0 0, xP 3 0] [oB 162 [.box 1 0], oB 164 [.row 2, .pv (.bool a0.f_form), .pv (.bool a0.f_deep), .pv (.int .i64 a0.f_blocks), .pv (.int .i64 a0.f_parens)], oR false 9 1 (List.map z0a a0.f_out), oB 154 (bs (z0p a1))] (z5f r) (z5g a1 r))
 | 0 => ⟨(fun _ _ _ h => by rw [z2a] at h; cases h), (fun _ _ _ h => by rw [z12] at h; cases h), (fun _ _ _ _ h => by rw [z2d] at h; cases h), (fun _ _ _ h => by rw [z3m] at h; cases h), (fun _ _ _ h => by rw [z13] at h; cases h), (fun _ _ _ h => by rw [z3t] at h; cases h)⟩
 | n + 1 => by
  have ih := zf4 n
  exact ⟨zlp ih.1 ih.2.1 ih.2.2.1 ih.2.2.2.1 ih.2.2.2.2.1 ih.2.2.2.2.2, zax ih.1 ih.2.1 ih.2.2.1 ih.2.2.2.1 ih.2.2.2.2.1 ih.2.2.2.2.2, zmd ih.1 ih.2.1 ih.2.2.1 ih.2.2.2.1 ih.2.2.2.2.1 ih.2.2.2.2.2, zjo ih.1 ih.2.1 ih.2.2.1 ih.2.2.2.1 ih.2.2.2.2.1 ih.2.2.2.2.2, zb3 ih.1 ih.2.1 ih.2.2.1 ih.2.2.2.1 ih.2.2.2.2.1 ih.2.2.2.2.2, zkn ih.1 ih.2.1 ih.2.2.1 ih.2.2.2.1 ih.2.2.2.2.1 ih.2.2.2.2.2⟩

theorem z95 {a0 : z01} {a1 : z05} {r : z01} (h : z84 a0 a1 = some r) : Cs Tryz.prog (GX X) 130 [xP 0 0, .agg (bs (z0p a1))] [oB 164 [.row 1, .pv (.bool a0.f_form), .pv (.bool a0.f_deep), .pv (.int .i64 a0.f_blocks), .pv (.int .i64 a0.f_parens)], oR false 9 1 (List.map z0a a0.f_out)] (z3h r) (z3i r) := by
 obtain ⟨n, hn⟩ := unfE h
 exact (zf4 n).1 _ _ _ hn

theorem zd5 {a0 : z01} {a1 : z5j} {r : z01} (h : z86 a0 a1 = some r) : Cs Tryz.prog (GX X) 131 [xP 0 0, .agg (bs (zi5 a1))] [oB 164 [.row 1, .pv (.bool a0.f_form), .pv (.bool a0.f_deep), .pv (.int .i64 a0.f_blocks), .pv (.int .i64 a0.f_parens)], oR false 9 1 (List.map z0a a0.f_out)] (zan r) (zao r) := by
 refine fnT (cx := cx X) Tryz.f131 Tryz.call131 Tryz.func131 (by kernel_rfl) ?_
 unfold z86 at h
 obtain ⟨v1, k1, h⟩ := z07 h
 obtain ⟨v2, k2, h⟩ := z07 h
 refine adv (ok X) 8 [.s (z0j v1) (z0k v1), .s (z3h v2) (z3i v2)] (pA (z0l (X := X) k1) (pA (z95 (X := X) k2) pT)) (by kernel_rfl) ?_
 refine jn (ok X) 1 (fun (j1 : Bool) => ⟨36, 2, [(0, [xP 0 0]), (3, [xP 2 0]), (18, [xB j1])], [oB 164 [.row 1, .pv (.bool v2.f_form), .pv (.bool v2.f_deep), .pv (.int .i64 v2.f_blocks), .pv (.int .i64 v2.f_parens)], oR true 9 1 (List.map z0a v2.f_out), oB 156 (bs (zi5 a1))]⟩) h (fun j1 h => ?_) (fun j1 h => ?_)
 ·rcases iteE h with ⟨k3, h⟩ | ⟨k3, h⟩
  ·obtain rfl := retE h
   exact fin (ok X) 1 (bT 4 []) (pR 4 k3 pT) (by kernel_rfl)
  ·obtain rfl := retE h
   exact fin (ok X) 1 (bF 4 []) (pR 4 k3 pT) (by kernel_rfl)
 ·rcases iteE h with ⟨k4, h⟩ | ⟨k4, h⟩
  ·obtain ⟨v3, k5, h⟩ := z07 h
   obtain ⟨v4, k6, h⟩ := z07 h
   obtain ⟨v5, k7, h⟩ := z07 h
   obtain rfl := retE h
   exact fin (ok X) 5 [.b true, .s (z3o v3) (z3p v3), .s (z3h v4) (z3i v4), .s (z0j v5) (z0k v5)] (pA k4 (pA (z3v (X := X) k5) (pA (z95 (X := X) k6) (pA (z0l (X := X) k7) pT)))) (by kernel_rfl)
  ·obtain ⟨v6, k8, h⟩ := z07 h
   obtain ⟨v7, k9, h⟩ := z07 h
   obtain ⟨v8, k10, h⟩ := z07 h
   obtain ⟨v9, k11, h⟩ := z07 h
   obtain rfl := retE h
   exact fin (ok X) 5 [.b false, .e [.str v6], .s (z0j v7) (z0k v7), .s (z3h v8) (z3i v8), .s (z0j v9) (z0k v9)] (pA k4 (pA (ixm z0a k8) (pA (z0l (X := X) k9) (pA (z95 (X := X) k10) (pA (z0l (X := X) k11) pT))))) (by kernel_rfl)

theorem zko {n : Nat} (ih_ast_writer_stmts : ∀ (a0 : z01) (a1 : (List z06)) (r : z01), z2b n a0 a1 = some r → Cs Tryz.prog (GX X) 92 [xP 0 0, xL (List.map z22 a1)] [oB 164 [.row 1, .pv (.bool a0.f_form), .pv (.bool a0.f_deep), .pv (.int .i64 a0.f_blocks), .pv (.int .i64 a0.f_parens)], oR false 9 1 (List.map z0a a0.f_out)] (z50 r) (z52 r)) (ih_ast_writer_stmt : ∀ (a0 : z01) (a1 : z06) (r : z01), z2m n a0 a1 = some r → Cs Tryz.prog (GX X) 113 [xP 0 0, .agg (bs (z47 a1))] [oB 164 [.row 1, .pv (.bool a0.f_form), .pv (.bool a0.f_deep), .pv (.int .i64 a0.f_blocks), .pv (.int .i64 a0.f_parens)], oR false 9 1 (List.map z0a a0.f_out)] (z77 r) (z78 r)) (ih_ast_writer_block : ∀ (a0 : z01) (a1 : (List z06)) (r : z01), z1z n a0 a1 = some r → Cs Tryz.prog (GX X) 132 [xP 0 0, xL (List.map z22 a1)] [oB 164 [.row 1, .pv (.bool a0.f_form), .pv (.bool a0.f_deep), .pv (.int .i64 a0.f_blocks), .pv (.int .i64 a0.f_parens)], oR false 9 1 (List.map z0a a0.f_out)] (z54 r) (z55 r)) (ih_ast_writer_arms : ∀ (a0 : z01) (a1 : (List z2n)) (r : z01), z35 n a0 a1 = some r → Cs Tryz.prog (GX X) 133 [xP 0 0, xL (List.map z4p a1)] [oB 164 [.row 1, .pv (.bool a0.f_form), .pv (.bool a0.f_deep), .pv (.int .i64 a0.f_blocks), .pv (.int .i64 a0.f_parens)], oR false 9 1 (List.map z0a a0.f_out)] (z6g r) (z6h r)) (a0 : z01) (a1 : (List z06)) (r : z01) (h : z2b (n + 1) a0 a1 = some r) : Cs Tryz.prog (GX X) 92 [xP 0 0, xL (List.map z22 a1)] [oB 164 [.row 1, .pv (.bool a0.f_form), .pv (.bool a0.f_deep), .pv (.int .i64 a0.f_blocks), .pv (.int .i64 a0.f_parens)], oR false 9 1 (List.map z0a a0.f_out)] (z50 r) (z52 r) := by
 refine fnT (cx := cx X) Tryz.f92 Tryz.call92 Tryz.func92 (by kernel_rfl) ?_
 rw [z2b] at h
 refine adv (ok X) 2 [.i (a1.length : Int)] (pA (lm z22 a1) pT) (by kernel_rfl) ?_
 refine lp (ok X) (z67 (z2b n) (z2m n) (z1z n) (z35 n) a1) (fun (x1 : (Int × Bool × Bool × Int × Int × (List ByteArray))) => ⟨16, 2, [(0, [xP 0 0]), (6, [xL (List.map z22 a1)]), (7, [xI (a1.length : Int)]), (8, [xI x1.1])], [oB 164 [.row 1, .pv (.bool x1.2.1), .pv (.bool x1.2.2.1), .pv (.int .i64 x1.2.2.2.1), .pv (.int .i64 x1.2.2.2.2.1)], oR true 9 1 (List.map z0a x1.2.2.2.2.2)]⟩) (fun (j1 : (Bool × Bool × Int × Int × (List ByteArray))) => ⟨16, 2, [], [oB 164 [.row 1, .pv (.bool j1.1), .pv (.bool j1.2.1), .pv (.int .i64 j1.2.2.1), .pv (.int .i64 j1.2.2.2.1)], oR true 9 1 (List.map z0a j1.2.2.2.2)]⟩) zkb (0, a0.f_form, a0.f_deep, a0.f_blocks, a0.f_parens, a0.f_out) (fun _ => ⟨_, _, _, _, rfl⟩) h (by kernel_rfl) (fun x1 o h => ?_) (fun r' h => ?_) (fun j1 h => ?_)
 ·unfold z67 at h
  rcases iteE h with ⟨k1, h⟩ | ⟨k1, h⟩
  ·obtain ⟨v1, k2, h⟩ := z07 h
   obtain ⟨v2, k3, h⟩ := z07 h
   obtain rfl := retE h
   exact fin (ok X) 12 [.b true, .e (z47 v1), .s (z77 v2) (z78 v2)] (pA k1 (pA (ixr ze6 k2) (pA (ih_ast_writer_stmt _ _ _ k3) pT))) (by kernel_rfl)
  ·obtain rfl := retE h
   exact fin (ok X) 5 [.b false] (pA k1 pT) (by kernel_rfl)
 ·cases h
 ·obtain rfl := retE h
  exact fin (ok X) 0 [] pT (by kernel_rfl)

theorem zlq {n : Nat} (ih_ast_writer_stmts : ∀ (a0 : z01) (a1 : (List z06)) (r : z01), z2b n a0 a1 = some r → Cs Tryz.prog (GX X) 92 [xP 0 0, xL (List.map z22 a1)] [oB 164 [.row 1, .pv (.bool a0.f_form), .pv (.bool a0.f_deep), .pv (.int .i64 a0.f_blocks), .pv (.int .i64 a0.f_parens)], oR false 9 1 (List.map z0a a0.f_out)] (z50 r) (z52 r)) (ih_ast_writer_stmt : ∀ (a0 : z01) (a1 : z06) (r : z01), z2m n a0 a1 = some r → Cs Tryz.prog (GX X) 113 [xP 0 0, .agg (bs (z47 a1))] [oB 164 [.row 1, .pv (.bool a0.f_form), .pv (.bool a0.f_deep), .pv (.int .i64 a0.f_blocks), .pv (.int .i64 a0.f_parens)], oR false 9 1 (List.map z0a a0.f_out)] (z77 r) (z78 r)) (ih_ast_writer_block : ∀ (a0 : z01) (a1 : (List z06)) (r : z01), z1z n a0 a1 = some r → Cs Tryz.prog (GX X) 132 [xP 0 0, xL (List.map z22 a1)] [oB 164 [.row 1, .pv (.bool a0.f_form), .pv (.bool a0.f_deep), .pv (.int .i64 a0.f_blocks), .pv (.int .i64 a0.f_parens)], oR false 9 1 (List.map z0a a0.f_out)] (z54 r) (z55 r)) (ih_ast_writer_arms : ∀ (a0 : z01) (a1 : (List z2n)) (r : z01), z35 n a0 a1 = some r → Cs Tryz.prog (GX X) 133 [xP 0 0, xL (List.map z4p a1)] [oB 164 [.row 1, .pv (.bool a0.f_form), .pv (.bool a0.f_deep), .pv (.int .i64 a0.f_blocks), .pv (.int .i64 a0.f_parens)], oR false 9 1 (List.map z0a a0.f_out)] (z6g r) (z6h r)) (a0 : z01) (a1 : z06) (r : z01) (h : z2m (n + 1) a0 a1 = some r) : Cs Tryz.prog (GX X) 113 [xP 0 0, .agg (bs (z47 a1))] [oB 164 [.row 1, .pv (.bool a0.f_form), .pv (.bool a0.f_deep), .pv (.int .i64 a0.f_blocks), .pv (.int .i64 a0.f_parens)], oR false 9 1 (List.map z0a a0.f_out)] (z77 r) (z78 r) := by
 refine fnT (cx := cx X) Tryz.f113 Tryz.call113 Tryz.func113 (by kernel_rfl) ?_
 rw [z2m] at h
 rcases iteE h with ⟨k1, h⟩ | ⟨k1, h⟩
 ·obtain ⟨v1, k2, h⟩ := z07 h
  obtain ⟨v2, k3, h⟩ := z07 h
  obtain ⟨v3, k4, h⟩ := z07 h
  obtain ⟨v4, k5, h⟩ := z07 h
  obtain rfl := retE h
  exact fin (ok X) 16 [.b true, .s (z1x v1) (z1y v1), .s (z0j v2) (z0k v2), .s (z3h v3) (z3i v3), .s (z0j v4) (z0k v4)] (pA k1 (pA (z26 (X := X) k2) (pA (z0l (X := X) k3) (pA (z95 (X := X) k4) (pA (z0l (X := X) k5) pT))))) (by kernel_rfl)
 ·refine adv (ok X) 10 [.b false] (pA k1 pT) (by kernel_rfl) ?_
  rcases iteE h with ⟨k6, h⟩ | ⟨k6, h⟩
  ·obtain ⟨v5, k7, h⟩ := z07 h
   obtain ⟨v6, k8, h⟩ := z07 h
   obtain ⟨v7, k9, h⟩ := z07 h
   refine adv (ok X) 9 [.b true, .s (z0j v5) (z0k v5), .s (zan v6) (zao v6), .s (z54 v7) (z55 v7), .i (a1.Else.length : Int)] (pA k6 (pA (z0l (X := X) k7) (pA (zd5 (X := X) k8) (pA (ih_ast_writer_block _ _ _ k9) (pA (lm z22 a1.Else) pT))))) (by kernel_rfl) ?_
   rcases iteE h with ⟨k10, h⟩ | ⟨k10, h⟩
   ·obtain ⟨v8, k11, h⟩ := z07 h
    obtain ⟨v9, k12, h⟩ := z07 h
    obtain rfl := retE h
    exact fin (ok X) 5 [.b true, .s (z0j v8) (z0k v8), .s (z54 v9) (z55 v9)] (pA k10 (pA (z0l (X := X) k11) (pA (ih_ast_writer_block _ _ _ k12) pT))) (by kernel_rfl)
   ·obtain rfl := retE h
    exact fin (ok X) 3 [.b false] (pA k10 pT) (by kernel_rfl)
  ·refine adv (ok X) 3 [.b false] (pA k6 pT) (by kernel_rfl) ?_
   rcases iteE h with ⟨k13, h⟩ | ⟨k13, h⟩
   ·obtain ⟨v10, k14, h⟩ := z07 h
    obtain ⟨v11, k15, h⟩ := z07 h
    obtain ⟨v12, k16, h⟩ := z07 h
    obtain rfl := retE h
    exact fin (ok X) 7 [.b true, .s (z0j v10) (z0k v10), .s (zan v11) (zao v11), .s (z54 v12) (z55 v12)] (pA k13 (pA (z0l (X := X) k14) (pA (zd5 (X := X) k15) (pA (ih_ast_writer_block _ _ _ k16) pT)))) (by kernel_rfl)
   ·refine adv (ok X) 3 [.b false] (pA k13 pT) (by kernel_rfl) ?_
    rcases iteE h with ⟨k17, h⟩ | ⟨k17, h⟩
    ·obtain ⟨v13, k18, h⟩ := z07 h
     obtain ⟨v14, k19, h⟩ := z07 h
     obtain ⟨v15, k20, h⟩ := z07 h
     obtain ⟨v16, k21, h⟩ := z07 h
     obtain ⟨v17, k22, h⟩ := z07 h
     obtain ⟨v18, k23, h⟩ := z07 h
     obtain ⟨v19, k24, h⟩ := z07 h
     obtain rfl := retE h
     exact fin (ok X) 15 [.b true, .s (z0j v13) (z0k v13), .s (z1x v14) (z1y v14), .s (z0j v15) (z0k v15), .s (z1x v16) (z1y v16), .s (z0j v17) (z0k v17), .s (z3h v18) (z3i v18), .s (z0j v19) (z0k v19)] (pA k17 (pA (z0l (X := X) k18) (pA (z26 (X := X) k19) (pA (z0l (X := X) k20) (pA (z26 (X := X) k21) (pA (z0l (X := X) k22) (pA (z95 (X := X) k23) (pA (z0l (X := X) k24) pT)))))))) (by kernel_rfl)
    ·refine adv (ok X) 3 [.b false] (pA k17 pT) (by kernel_rfl) ?_
     rcases iteE h with ⟨k25, h⟩ | ⟨k25, h⟩
     ·obtain ⟨v20, k26, h⟩ := z07 h
      obtain ⟨v21, k27, h⟩ := z07 h
      obtain ⟨v22, k28, h⟩ := z07 h
      obtain rfl := retE h
      exact fin (ok X) 7 [.b true, .s (z0j v20) (z0k v20), .s (z1x v21) (z1y v21), .s (z6g v22) (z6h v22)] (pA k25 (pA (z0l (X := X) k26) (pA (z26 (X := X) k27) (pA (ih_ast_writer_arms _ _ _ k28) pT)))) (by kernel_rfl)
     ·refine adv (ok X) 3 [.b false] (pA k25 pT) (by kernel_rfl) ?_
      rcases iteE h with ⟨k29, h⟩ | ⟨k29, h⟩
      ·obtain ⟨v23, k30, h⟩ := z07 h
       obtain ⟨v24, k31, h⟩ := z07 h
       obtain ⟨v25, k32, h⟩ := z07 h
       obtain rfl := retE h
       exact fin (ok X) 7 [.b true, .s (z0j v23) (z0k v23), .s (zan v24) (zao v24), .s (z0j v25) (z0k v25)] (pA k29 (pA (z0l (X := X) k30) (pA (zd5 (X := X) k31) (pA (z0l (X := X) k32) pT)))) (by kernel_rfl)
      ·refine adv (ok X) 3 [.b false] (pA k29 pT) (by kernel_rfl) ?_
       rcases iteE h with ⟨k33, h⟩ | ⟨k33, h⟩
       ·obtain ⟨v26, k34, h⟩ := z07 h
        obtain ⟨v27, k35, h⟩ := z07 h
        obtain ⟨v28, k36, h⟩ := z07 h
        obtain rfl := retE h
        exact fin (ok X) 7 [.b true, .s (z0j v26) (z0k v26), .s (z1x v27) (z1y v27), .s (z0j v28) (z0k v28)] (pA k33 (pA (z0l (X := X) k34) (pA (z26 (X := X) k35) (pA (z0l (X := X) k36) pT)))) (by kernel_rfl)
       ·obtain ⟨v29, k37, h⟩ := z07 h
        obtain rfl := retE h
        exact fin (ok X) 3 [.b false, .s (z3o v29) (z3p v29)] (pA k33 (pA (z3v (X := X) k37) pT)) (by kernel_rfl)

theorem zkp {n : Nat} (ih_ast_writer_stmts : ∀ (a0 : z01) (a1 : (List z06)) (r : z01), z2b n a0 a1 = some r → Cs Tryz.prog (GX X) 92 [xP 0 0, xL (List.map z22 a1)] [oB 164 [.row 1, .pv (.bool a0.f_form), .pv (.bool a0.f_deep), .pv (.int .i64 a0.f_blocks), .pv (.int .i64 a0.f_parens)], oR false 9 1 (List.map z0a a0.f_out)] (z50 r) (z52 r)) (ih_ast_writer_stmt : ∀ (a0 : z01) (a1 : z06) (r : z01), z2m n a0 a1 = some r → Cs Tryz.prog (GX X) 113 [xP 0 0, .agg (bs (z47 a1))] [oB 164 [.row 1, .pv (.bool a0.f_form), .pv (.bool a0.f_deep), .pv (.int .i64 a0.f_blocks), .pv (.int .i64 a0.f_parens)], oR false 9 1 (List.map z0a a0.f_out)] (z77 r) (z78 r)) (ih_ast_writer_block : ∀ (a0 : z01) (a1 : (List z06)) (r : z01), z1z n a0 a1 = some r → Cs Tryz.prog (GX X) 132 [xP 0 0, xL (List.map z22 a1)] [oB 164 [.row 1, .pv (.bool a0.f_form), .pv (.bool a0.f_deep), .pv (.int .i64 a0.f_blocks), .pv (.int .i64 a0.f_parens)], oR false 9 1 (List.map z0a a0.f_out)] (z54 r) (z55 r)) (ih_ast_writer_arms : ∀ (a0 : z01) (a1 : (List z2n)) (r : z01), z35 n a0 a1 = some r → Cs Tryz.prog (GX X) 133 [xP 0 0, xL (List.map z4p a1)] [oB 164 [.row 1, .pv (.bool a0.f_form), .pv (.bool a0.f_deep), .pv (.int .i64 a0.f_blocks), .pv (.int .i64 a0.f_parens)], oR false 9 1 (List.map z0a a0.f_out)] (z6g r) (z6h r)) (a0 : z01) (a1 : (List z06)) (r : z01) (h : z1z (n + 1) a0 a1 = some r) : Cs Tryz.prog (GX X) 132 [xP 0 0, xL (List.map z22 a1)] [oB 164 [.row 1, .pv (.bool a0.f_form), .pv (.bool a0.f_deep), .pv (.int .i64 a0.f_blocks), .pv (.int .i64 a0.f_parens)], oR false 9 1 (List.map z0a a0.f_out)] (z54 r) (z55 r) := by
 refine fnT (cx := cx X) Tryz.f132 Tryz.call132 Tryz.func132 (by kernel_rfl) ?_
 rw [z1z] at h
 obtain ⟨v1, k1, h⟩ := z07 h
 refine adv (ok X) 5 [.s (z0j v1) (z0k v1)] (pA (z0l (X := X) k1) pT) (by kernel_rfl) ?_
 refine jn (ok X) 1 (fun (j1 : Bool) => ⟨41, 2, [(0, [xP 0 0]), (1, [xL (List.map z22 a1)])], [oB 164 [.row 1, .pv (.bool v1.f_form), .pv (.bool j1), .pv (.int .i64 (IntKind.i64.wrap (v1.f_blocks + 1))), .pv (.int .i64 v1.f_parens)], oR true 9 1 (List.map z0a v1.f_out)]⟩) h (fun j1 h => ?_) (fun j1 h => ?_)
 ·rcases iteE h with ⟨k2, h⟩ | ⟨k2, h⟩
  ·obtain rfl := retE h
   exact fin (ok X) 1 (bT 6 []) (pR 6 k2 pT) (by kernel_rfl)
  ·obtain rfl := retE h
   exact fin (ok X) 1 (bF 6 []) (pR 6 k2 pT) (by kernel_rfl)
 ·obtain ⟨v2, k3, h⟩ := z07 h
  obtain ⟨v3, k4, h⟩ := z07 h
  obtain rfl := retE h
  exact fin (ok X) 5 [.s (z50 v2) (z52 v2), .s (z0j v3) (z0k v3)] (pA (ih_ast_writer_stmts _ _ _ k3) (pA (z0l (X := X) k4) pT)) (by kernel_rfl)

theorem zlr {n : Nat} (ih_ast_writer_stmts : ∀ (a0 : z01) (a1 : (List z06)) (r : z01), z2b n a0 a1 = some r → Cs Tryz.prog (GX X) 92 [xP 0 0, xL (List.map z22 a1)] [oB 164 [.row 1, .pv (.bool a0.f_form), .pv (.bool a0.f_deep), .pv (.int .i64 a0.f_blocks), .pv (.int .i64 a0.f_parens)], oR false 9 1 (List.map z0a a0.f_out)] (z50 r) (z52 r)) (ih_ast_writer_stmt : ∀ (a0 : z01) (a1 : z06) (r : z01), z2m n a0 a1 = some r → Cs Tryz.prog (GX X) 113 [xP 0 0, .agg (bs (z47 a1))] [oB 164 [.row 1, .pv (.bool a0.f_form), .pv (.bool a0.f_deep), .pv (.int .i64 a0.f_blocks), .pv (.int .i64 a0.f_parens)], oR false 9 1 (List.map z0a a0.f_out)] (z77 r) (z78 r)) (ih_ast_writer_block : ∀ (a0 : z01) (a1 : (List z06)) (r : z01), z1z n a0 a1 = some r → Cs Tryz.prog (GX X) 132 [xP 0 0, xL (List.map z22 a1)] [oB 164 [.row 1, .pv (.bool a0.f_form), .pv (.bool a0.f_deep), .pv (.int .i64 a0.f_blocks), .pv (.int .i64 a0.f_parens)], oR false 9 1 (List.map z0a a0.f_out)] (z54 r) (z55 r)) (ih_ast_writer_arms : ∀ (a0 : z01) (a1 : (List z2n)) (r : z01), z35 n a0 a1 = some r → Cs Tryz.prog (GX X) 133 [xP 0 0, xL (List.map z4p a1)] [oB 164 [.row 1, .pv (.bool a0.f_form), .pv (.bool a0.f_deep), .pv (.int .i64 a0.f_blocks), .pv (.int .i64 a0.f_parens)], oR false 9 1 (List.map z0a a0.f_out)] (z6g r) (z6h r)) (a0 : z01) (a1 : (List z2n)) (r : z01) (h : z35 (n + 1) a0 a1 = some r) : Cs Tryz.prog (GX X) 133 [xP 0 0, xL (List.map z4p a1)] [oB 164 [.row 1, .pv (.bool a0.f_form), .pv (.bool a0.f_deep), .pv (.int .i64 a0.f_blocks), .pv (.int .i64 a0.f_parens)], oR false 9 1 (List.map z0a a0.f_out)] (z6g r) (z6h r) := by
 refine fnT (cx := cx X) Tryz.f133 Tryz.call133 Tryz.func133 (by kernel_rfl) ?_
 rw [z35] at h
 obtain ⟨v1, k1, h⟩ := z07 h
 obtain ⟨v2, k2, h⟩ := z07 h
 refine adv (ok X) 7 [.i (a1.length : Int), .s (z3o v1) (z3p v1), .s (z0j v2) (z0k v2), .i (a1.length : Int)] (pA (lm z4p a1) (pA (z3v (X := X) k1) (pA (z0l (X := X) k2) (pA (lm z4p a1) pT)))) (by kernel_rfl) ?_
 refine lp (ok X) (z6q (z2b n) (z2m n) (z1z n) (z35 n) a1) (fun (x1 : (Int × Bool × Bool × Int × Int × (List ByteArray))) => ⟨42, 2, [(0, [xP 0 0]), (14, [xL (List.map z4p a1)]), (15, [xI (a1.length : Int)]), (16, [xI x1.1])], [oB 164 [.row 1, .pv (.bool x1.2.1), .pv (.bool x1.2.2.1), .pv (.int .i64 x1.2.2.2.1), .pv (.int .i64 x1.2.2.2.2.1)], oR true 9 1 (List.map z0a x1.2.2.2.2.2)]⟩) (fun (j1 : (Bool × Bool × Int × Int × (List ByteArray))) => ⟨42, 2, [(0, [xP 0 0])], [oB 164 [.row 1, .pv (.bool j1.1), .pv (.bool j1.2.1), .pv (.int .i64 j1.2.2.1), .pv (.int .i64 j1.2.2.2.1)], oR true 9 1 (List.map z0a j1.2.2.2.2)]⟩) zlk (0, v2.f_form, v2.f_deep, v2.f_blocks, v2.f_parens, v2.f_out) (fun _ => ⟨_, _, _, _, rfl⟩) h (by kernel_rfl) (fun x1 o h => ?_) (fun r' h => ?_) (fun j1 h => ?_)
 ·unfold z6q at h
  rcases iteE h with ⟨k3, h⟩ | ⟨k3, h⟩
  ·obtain ⟨v3, k4, h⟩ := z07 h
   obtain ⟨v4, k5, h⟩ := z07 h
   obtain ⟨v5, k6, h⟩ := z07 h
   obtain ⟨v6, k7, h⟩ := z07 h
   obtain ⟨v7, k8, h⟩ := z07 h
   obtain ⟨v8, k9, h⟩ := z07 h
   obtain rfl := retE h
   exact fin (ok X) 20 [.b true, .e (zn9 v3), .s (z1x v4) (z1y v4), .s (z0j v5) (z0k v5), .s (z1x v6) (z1y v6), .s (z0j v7) (z0k v7), .s (z54 v8) (z55 v8)] (pA k3 (pA (ixr zdd k4) (pA (z26 (X := X) k5) (pA (z0l (X := X) k6) (pA (z26 (X := X) k7) (pA (z0l (X := X) k8) (pA (ih_ast_writer_block _ _ _ k9) pT))))))) (by kernel_rfl)
  ·obtain rfl := retE h
   exact fin (ok X) 5 [.b false] (pA k3 pT) (by kernel_rfl)
 ·cases h
 ·obtain ⟨v9, k10, h⟩ := z07 h
  obtain rfl := retE h
  exact fin (ok X) 1 [.s (z0j v9) (z0k v9)] (pA (z0l (X := X) k10) pT) (by kernel_rfl)

theorem ze2 : ∀ n : Nat, (∀ (a0 : z01) (a1 : (List z06)) (r : z01), z2b n a0 a1 = some r → Cs Tryz.prog (GX X) 92 [xP 0 0, xL (List.map z22 a1)] [oB 164 [.row 1, .pv (.bool a0.f_form), .pv (.bool a0.f_deep), .pv (.int .i64 a0.f_blocks), .pv (.int .i64 a0.f_parens)], oR false 9 1 (List.map z0a a0.f_out)] (z50 r) (z52 r)) ∧ (∀ (a0 : z01) (a1 : z06) (r : z01), z2m n a0 a1 = some r → Cs Tryz.prog (GX X) 113 [xP 0 0, .agg (bs (z47 a1))] [oB 164 [.row 1, .pv (.bool a0.f_form), .pv (.bool a0.f_deep), .pv (.int .i64 a0.f_blocks), .pv (.int .i64 a0.f_parens)], oR false 9 1 (List.map z0a a0.f_out)] (z77 r) (z78 r)) ∧ (∀ (a0 : z01) (a1 : (List z06)) (r : z01), z1z n a0 a1 = some r → Cs Tryz.prog (GX X) 132 [xP 0 0, xL (List.map z22 a1)] [oB 164 [.row 1, .pv (.bool a0.f_form), .pv (.bool a0.f_deep), .pv (.int .i64 a0.f_blocks), .pv (.int .i64 a0.f_parens)], oR false 9 1 (List.map z0a a0.f_out)] (z54 r) (z55 r)) ∧ (∀ (a0 : z01) (a1 : (List z2n)) (r : z01), z35 n a0 a1 = some r → Cs Tryz.prog (GX X) 133 [xP 0 0, xL (List.map z4p a1)] [oB 164 [.row 1, .pv (.bool a0.f_form), .pv (.bool a0.f_deep), .pv (.int .i64 a0.f_blocks), .pv (.int .i64 a0.f_parens)], oR false 9 1 (List.map z0a a0.f_out)] (z6g r) (z6h r))
 | 0 => ⟨(fun _ _ _ h => by rw [z2b] at h; cases h), (fun _ _ _ h => by rw [z2m] at h; cases h), (fun _ _ _ h => by rw [z1z] at h; cases h), (fun _ _ _ h => by rw [z35] at h; cases h)⟩
 | n + 1 => by
  have ih := ze2 n
  exact ⟨zko ih.1 ih.2.1 ih.2.2.1 ih.2.2.2, zlq ih.1 ih.2.1 ih.2.2.1 ih.2.2.2, zkp ih.1 ih.2.1 ih.2.2.1 ih.2.2.2, zlr ih.1 ih.2.1 ih.2.2.1 ih.2.2.2⟩

theorem zkq {a0 : z01} {a1 : (List z06)} {r : z01} (h : zb7 a0 a1 = some r) : Cs Tryz.prog (GX X) 92 [xP 0 0, xL (List.map z22 a1)] [oB 164 [.row 1, .pv (.bool a0.f_form), .pv (.bool a0.f_deep), .pv (.int .i64 a0.f_blocks), .pv (.int .i64 a0.f_parens)], oR false 9 1 (List.map z0a a0.f_out)] (z50 r) (z52 r) := by
 obtain ⟨n, hn⟩ := unfE h
 exact (ze2 n).1 _ _ _ hn

theorem zls {a0 : z01} {a1 : z59} {r : z01} (h : z92 a0 a1 = some r) : Cs Tryz.prog (GX X) 69 [xP 0 0, .agg (bs (z0g a1))] [oB 164 [.row 1, .pv (.bool a0.f_form), .pv (.bool a0.f_deep), .pv (.int .i64 a0.f_blocks), .pv (.int .i64 a0.f_parens)], oR false 9 1 (List.map z0a a0.f_out)] (zcu r) (zcv r) := by
 refine fnT (cx := cx X) Tryz.f69 Tryz.call69 Tryz.func69 (by kernel_rfl) ?_
 unfold z92 at h
 obtain ⟨v1, k1, h⟩ := z07 h
 obtain ⟨v2, k2, h⟩ := z07 h
 obtain ⟨v3, k3, h⟩ := z07 h
 refine adv (ok X) 11 [.s (z0j v1) (z0k v1), .s (z1x v2) (z1y v2), .s (z0j v3) (z0k v3), .i (a1.Vars.length : Int)] (pA (z0l (X := X) k1) (pA (z26 (X := X) k2) (pA (z0l (X := X) k3) (pA (lm z0a a1.Vars) pT)))) (by kernel_rfl) ?_
 refine lp (ok X) (z7l a1) (fun (x1 : (Int × Bool × Bool × Int × Int × (List ByteArray))) => ⟨40, 2, [(0, [xP 0 0]), (3, [xP 2 0]), (17, [xL (List.map z0a a1.Vars)]), (18, [xI (a1.Vars.length : Int)]), (19, [xI x1.1])], [oB 164 [.row 1, .pv (.bool x1.2.1), .pv (.bool x1.2.2.1), .pv (.int .i64 x1.2.2.2.1), .pv (.int .i64 x1.2.2.2.2.1)], oR true 9 1 (List.map z0a x1.2.2.2.2.2), oB 79 (bs (z0g a1))]⟩) (fun (j1 : (Bool × Bool × Int × Int × (List ByteArray))) => ⟨40, 2, [(0, [xP 0 0]), (3, [xP 2 0])], [oB 164 [.row 1, .pv (.bool j1.1), .pv (.bool j1.2.1), .pv (.int .i64 j1.2.2.1), .pv (.int .i64 j1.2.2.2.1)], oR true 9 1 (List.map z0a j1.2.2.2.2), oB 79 (bs (z0g a1))]⟩) zll (0, v3.f_form, v3.f_deep, v3.f_blocks, v3.f_parens, v3.f_out) (fun _ => ⟨_, _, _, _, rfl⟩) h (by kernel_rfl) (fun x1 o h => ?_) (fun r' h => ?_) (fun j1 h => ?_)
 ·unfold z7l at h
  rcases iteE h with ⟨k4, h⟩ | ⟨k4, h⟩
  ·obtain ⟨v4, k5, h⟩ := z07 h
   obtain ⟨v5, k6, h⟩ := z07 h
   obtain ⟨v6, k7, h⟩ := z07 h
   obtain ⟨v7, k8, h⟩ := z07 h
   obtain rfl := retE h
   exact fin (ok X) 16 [.b true, .e [.str v4], .s (z0j v5) (z0k v5), .s (z1x v6) (z1y v6), .s (z0j v7) (z0k v7)] (pA k4 (pA (ixm z0a k5) (pA (z0l (X := X) k6) (pA (z26 (X := X) k7) (pA (z0l (X := X) k8) pT))))) (by kernel_rfl)
  ·obtain rfl := retE h
   exact fin (ok X) 5 [.b false] (pA k4 pT) (by kernel_rfl)
 ·cases h
 ·obtain ⟨v8, k9, h⟩ := z07 h
  obtain ⟨v9, k10, h⟩ := z07 h
  obtain rfl := retE h
  exact fin (ok X) 3 [.s (z50 v8) (z52 v8), .s (z0j v9) (z0k v9)] (pA (zkq (X := X) k9) (pA (z0l (X := X) k10) pT)) (by kernel_rfl)

theorem zs6 {a0 : z2l} {r : ((List ByteArray) × Int)} (h : zhh a0 = some r) : Cv Tryz.prog (GX X) 37 [.agg (bs (z6d a0))] (zgm r) := by
 refine Cs.toV (?_ : Cs Tryz.prog (GX X) 37 [.agg (bs (z6d a0))] [] (zgm r) (znc r)) (by kernel_rfl)
 refine fnT (cx := cx X) Tryz.f37 Tryz.call37 Tryz.func37 (by kernel_rfl) ?_
 unfold zhh at h
 refine adv (ok X) 7 [.i (a0.Chans.length : Int)] (pA (lm z0e a0.Chans) pT) (by kernel_rfl) ?_
 refine lp (ok X) (za4 a0) (fun (x1 : (Int × Bool × Bool × Int × Int × (List ByteArray))) => ⟨67, 0, [(1, [xP 0 0]), (4, [xP 1 0]), (14, [xL (List.map z0e a0.Chans)]), (15, [xI (a0.Chans.length : Int)]), (16, [xI x1.1])], [oB 38 (bs (z6d a0)), oB 164 [.row 2, .pv (.bool x1.2.1), .pv (.bool x1.2.2.1), .pv (.int .i64 x1.2.2.2.1), .pv (.int .i64 x1.2.2.2.2.1)], oR true 9 1 (List.map z0a x1.2.2.2.2.2)]⟩) (fun (j1 : (Bool × Bool × Int × Int × (List ByteArray))) => ⟨67, 0, [(1, [xP 0 0]), (4, [xP 1 0])], [oB 38 (bs (z6d a0)), oB 164 [.row 2, .pv (.bool j1.1), .pv (.bool j1.2.1), .pv (.int .i64 j1.2.2.1), .pv (.int .i64 j1.2.2.2.1)], oR true 9 1 (List.map z0a j1.2.2.2.2)]⟩) zjb (0, false, false, 0, 0, []) (fun _ => ⟨_, _, _, _, rfl⟩) h (by kernel_rfl) (fun x1 o h => ?_) (fun r' h => ?_) (fun j1 h => ?_)
 ·unfold za4 at h
  rcases iteE h with ⟨k1, h⟩ | ⟨k1, h⟩
  ·obtain ⟨v1, k2, h⟩ := z07 h
   obtain ⟨v2, k3, h⟩ := z07 h
   obtain rfl := retE h
   exact fin (ok X) 12 [.b true, .e (z0e v1), .s (zav v2) (zaw v2)] (pA k1 (pA (ixm z0e k2) (pA (zio (X := X) k3) pT))) (by kernel_rfl)
  ·obtain rfl := retE h
   exact fin (ok X) 5 [.b false] (pA k1 pT) (by kernel_rfl)
 ·cases h
 ·refine adv (ok X) 3 [.i (a0.Rules.length : Int)] (pA (lm z0i a0.Rules) pT) (by kernel_rfl) ?_
  refine lp (ok X) (za5 a0) (fun (x2 : (Int × Bool × Bool × Int × Int × (List ByteArray))) => ⟨67, 0, [(1, [xP 0 0]), (4, [xP 1 0]), (25, [xL (List.map z0i a0.Rules)]), (26, [xI (a0.Rules.length : Int)]), (27, [xI x2.1])], [oB 38 (bs (z6d a0)), oB 164 [.row 2, .pv (.bool x2.2.1), .pv (.bool x2.2.2.1), .pv (.int .i64 x2.2.2.2.1), .pv (.int .i64 x2.2.2.2.2.1)], oR true 9 1 (List.map z0a x2.2.2.2.2.2)]⟩) (fun (j2 : (Bool × Bool × Int × Int × (List ByteArray))) => ⟨67, 0, [(1, [xP 0 0]), (4, [xP 1 0])], [oB 38 (bs (z6d a0)), oB 164 [.row 2, .pv (.bool j2.1), .pv (.bool j2.2.1), .pv (.int .i64 j2.2.2.1), .pv (.int .i64 j2.2.2.2.1)], oR true 9 1 (List.map z0a j2.2.2.2.2)]⟩) zjb (0, j1.1, j1.2.1, j1.2.2.1, j1.2.2.2.1, j1.2.2.2.2) (fun _ => ⟨_, _, _, _, rfl⟩) h (by kernel_rfl) (fun x2 o h => ?_) (fun r' h => ?_) (fun j2 h => ?_)
  ·unfold za5 at h
   rcases iteE h with ⟨k4, h⟩ | ⟨k4, h⟩
   ·obtain ⟨v3, k5, h⟩ := z07 h
    obtain ⟨v4, k6, h⟩ := z07 h
    obtain rfl := retE h
    exact fin (ok X) 12 [.b true, .e (z0i v3), .s (zcs v4) (zct v4)] (pA k4 (pA (ixm z0i k5) (pA (zln (X := X) k6) pT))) (by kernel_rfl)
   ·obtain rfl := retE h
    exact fin (ok X) 5 [.b false] (pA k4 pT) (by kernel_rfl)
  ·cases h
  ·refine adv (ok X) 3 [.i (a0.Procs.length : Int)] (pA (lm z0g a0.Procs) pT) (by kernel_rfl) ?_
   refine lp (ok X) (za6 a0) (fun (x3 : (Int × Bool × Bool × Int × Int × (List ByteArray))) => ⟨67, 0, [(4, [xP 1 0]), (36, [xL (List.map z0g a0.Procs)]), (37, [xI (a0.Procs.length : Int)]), (38, [xI x3.1])], [none, oB 164 [.row 2, .pv (.bool x3.2.1), .pv (.bool x3.2.2.1), .pv (.int .i64 x3.2.2.2.1), .pv (.int .i64 x3.2.2.2.2.1)], oR true 9 1 (List.map z0a x3.2.2.2.2.2)]⟩) (fun (j3 : (Bool × Bool × Int × Int × (List ByteArray))) => ⟨67, 0, [(4, [xP 1 0])], [none, oB 164 [.row 2, .pv (.bool j3.1), .pv (.bool j3.2.1), .pv (.int .i64 j3.2.2.1), .pv (.int .i64 j3.2.2.2.1)], oR true 9 1 (List.map z0a j3.2.2.2.2)]⟩) zjb (0, j2.1, j2.2.1, j2.2.2.1, j2.2.2.2.1, j2.2.2.2.2) (fun _ => ⟨_, _, _, _, rfl⟩) h (by kernel_rfl) (fun x3 o h => ?_) (fun r' h => ?_) (fun j3 h => ?_)
   ·unfold za6 at h
    rcases iteE h with ⟨k7, h⟩ | ⟨k7, h⟩
    ·obtain ⟨v5, k8, h⟩ := z07 h
     obtain ⟨v6, k9, h⟩ := z07 h
     obtain rfl := retE h
     exact fin (ok X) 12 [.b true, .e (z0g v5), .s (zcu v6) (zcv v6)] (pA k7 (pA (ixm z0g k8) (pA (zls (X := X) k9) pT))) (by kernel_rfl)
    ·obtain rfl := retE h
     exact fin (ok X) 5 [.b false] (pA k7 pT) (by kernel_rfl)
   ·cases h
   ·rcases iteE h with ⟨k10, h⟩ | ⟨k10, h⟩
    ·obtain rfl := retE h
     exact fin (ok X) 8 [.b true] (pA k10 pT) (by kernel_rfl)
    ·refine adv (ok X) 7 [.b false] (pA k10 pT) (by kernel_rfl) ?_
     rcases iteE h with ⟨k11, h⟩ | ⟨k11, h⟩
     ·obtain rfl := retE h
      exact fin (ok X) 4 [.b true] (pA k11 pT) (by kernel_rfl)
     ·refine adv (ok X) 3 [.b false, .i (j3.2.2.2.2.length : Int)] (pA k11 (pA (lm z0a j3.2.2.2.2) pT)) (by kernel_rfl) ?_
      rcases iteE h with ⟨k12, h⟩ | ⟨k12, h⟩
      ·obtain rfl := retE h
       exact fin (ok X) 4 [.b true] (pA k12 pT) (by kernel_rfl)
      ·obtain rfl := retE h
       exact fin (ok X) 6 [.b false] (pA k12 pT) (by kernel_rfl)

theorem znm {a0 : z2l} {r : Bool} (h : zcc a0 = some r) : Cv Tryz.prog (GX X) 21 [.agg (bs (z6d a0))] (zes r) := by
 refine Cs.toV (?_ : Cs Tryz.prog (GX X) 21 [.agg (bs (z6d a0))] [] (zes r) (znd r)) (by kernel_rfl)
 refine fnT (cx := cx X) Tryz.f21 Tryz.call21 Tryz.func21 (by kernel_rfl) ?_
 unfold zcc at h
 obtain ⟨v1, k1, h⟩ := z07 h
 obtain rfl := retE h
 exact fin (ok X) 7 [.c (zgm v1)] (pA (zs6 (X := X) k1) pT) (by kernel_rfl)

theorem zkr {a0 : z02} {a1 : Int} {r : z02} (h : zdu a0 a1 = some r) : Cs Tryz.prog (GX X) 70 [xP 0 0, xI a1] [oB 85 [.pv (.sl (List.map z0e a0.f_s.Chans)), .pv (.sl (List.map z0i a0.f_s.Rules)), .pv (.sl (List.map z0g a0.f_s.Procs)), .row 1, .row 2, .row 3, .row 4, .pv (.int .i64 a0.f_proc), .pv (.sl (List.map z0a a0.f_vars)), .pv (.int .i64 a0.f_e)], oR false 46 6 (List.map z04 a0.f_p.Chans), oR false 51 2 (List.map z0b a0.f_p.Procs), oR false 9 1 (List.map z0a a0.f_chans), oR false 9 1 (List.map z0a a0.f_procs)] (zfh r) (zfi r) := by
 refine fnT (cx := cx X) Tryz.f70 Tryz.call70 Tryz.func70 (by kernel_rfl) ?_
 unfold zdu at h
 rcases iteE h with ⟨k1, h⟩ | ⟨k1, h⟩
 ·obtain rfl := retE h
  exact fin (ok X) 4 [.b true] (pA k1 pT) (by kernel_rfl)
 ·obtain rfl := retE h
  exact fin (ok X) 4 [.b false] (pA k1 pT) (by kernel_rfl)

theorem z30 {a0 : z02} {a1 : Bool} {a2 : Int} {r : z02} (h : z1w a0 a1 a2 = some r) : Cs Tryz.prog (GX X) 38 [xP 0 0, xB a1, xI a2] [oB 85 [.pv (.sl (List.map z0e a0.f_s.Chans)), .pv (.sl (List.map z0i a0.f_s.Rules)), .pv (.sl (List.map z0g a0.f_s.Procs)), .row 1, .row 2, .row 3, .row 4, .pv (.int .i64 a0.f_proc), .pv (.sl (List.map z0a a0.f_vars)), .pv (.int .i64 a0.f_e)], oR false 46 6 (List.map z04 a0.f_p.Chans), oR false 51 2 (List.map z0b a0.f_p.Procs), oR false 9 1 (List.map z0a a0.f_chans), oR false 9 1 (List.map z0a a0.f_procs)] (z2p r) (z2q r) := by
 refine fnT (cx := cx X) Tryz.f38 Tryz.call38 Tryz.func38 (by kernel_rfl) ?_
 unfold z1w at h
 rcases iteE h with ⟨k1, h⟩ | ⟨k1, h⟩
 ·obtain ⟨v1, k2, h⟩ := z07 h
  obtain rfl := retE h
  exact fin (ok X) 4 [.b true, .s (zfh v1) (zfi v1)] (pA k1 (pA (zkr (X := X) k2) pT)) (by kernel_rfl)
 ·obtain rfl := retE h
  exact fin (ok X) 4 [.b false] (pA k1 pT) (by kernel_rfl)

theorem z66 {a0 : (List ByteArray)} {a1 : ByteArray} {r : Int} (h : z1j a0 a1 = some r) : Cv Tryz.prog (GX X) 72 [xL (List.map z0a a0), xS a1] (z3y r) := by
 refine Cs.toV (?_ : Cs Tryz.prog (GX X) 72 [xL (List.map z0a a0), xS a1] [] (z3y r) (z9h r)) (by kernel_rfl)
 refine fnT (cx := cx X) Tryz.f72 Tryz.call72 Tryz.func72 (by kernel_rfl) ?_
 unfold z1j at h
 refine adv (ok X) 5 [.i (a0.length : Int)] (pA (lm z0a a0) pT) (by kernel_rfl) ?_
 refine lp (ok X) (z3r a0 a1) (fun (x1 : Int) => ⟨19, 0, [(0, [xL (List.map z0a a0)]), (1, [xS a1]), (7, [xI (a0.length : Int)]), (8, [xI x1])], []⟩) (fun (j1 : Unit) => ⟨19, 0, [], []⟩) zdv 0 (fun _ => ⟨_, _, _, _, rfl⟩) h (by kernel_rfl) (fun x1 o h => ?_) (fun r' h => ?_) (fun j1 h => ?_)
 ·unfold z3r at h
  rcases iteE h with ⟨k1, h⟩ | ⟨k1, h⟩
  ·obtain ⟨v1, k2, h⟩ := z07 h
   refine adv (ok X) 11 [.b true, .e [.str v1]] (pA k1 (pA (ixm z0a k2) pT)) (by kernel_rfl) ?_
   rcases iteE h with ⟨k3, h⟩ | ⟨k3, h⟩
   ·obtain rfl := retE h
    exact fin (ok X) 4 [.b true] (pA k3 pT) (by kernel_rfl)
   ·obtain rfl := retE h
    exact fin (ok X) 4 [.b false] (pA k3 pT) (by kernel_rfl)
  ·obtain rfl := retE h
   exact fin (ok X) 5 [.b false] (pA k1 pT) (by kernel_rfl)
 ·obtain rfl := retE h
  kernel_rfl
 ·obtain rfl := retE h
  exact fin (ok X) 3 [] pT (by kernel_rfl)

theorem z70 {a0 : (List ByteArray)} {a1 : ByteArray} {r : Bool} (h : z2r a0 a1 = some r) : Cv Tryz.prog (GX X) 71 [xL (List.map z0a a0), xS a1] (z4x r) := by
 refine Cs.toV (?_ : Cs Tryz.prog (GX X) 71 [xL (List.map z0a a0), xS a1] [] (z4x r) (zck r)) (by kernel_rfl)
 refine fnT (cx := cx X) Tryz.f71 Tryz.call71 Tryz.func71 (by kernel_rfl) ?_
 unfold z2r at h
 obtain ⟨v1, k1, h⟩ := z07 h
 obtain rfl := retE h
 exact fin (ok X) 5 [.c (z3y v1)] (pA (z66 (X := X) k1) pT) (by kernel_rfl)

theorem zlt {a0 : z02} {a2 : ByteArray} {r : (z02 × (List ByteArray))} (h : z93 a0 a2 = some r) : Cs Tryz.prog (GX X) 39 [xP 0 0, xR 3, xS a2] [oB 85 [.pv (.sl (List.map z0e a0.f_s.Chans)), .pv (.sl (List.map z0i a0.f_s.Rules)), .pv (.sl (List.map z0g a0.f_s.Procs)), .row 1, .row 2, .row 3, .row 4, .pv (.int .i64 a0.f_proc), .pv (.sl (List.map z0a a0.f_vars)), .pv (.int .i64 a0.f_e)], oR false 46 6 (List.map z04 a0.f_p.Chans), oR false 51 2 (List.map z0b a0.f_p.Procs), oR false 9 1 (List.map z0a a0.f_chans), oR false 9 1 (List.map z0a a0.f_procs)] (zg8 r) (zg9 r) := by
 refine fnT (cx := cx X) Tryz.f39 Tryz.call39 Tryz.func39 (by kernel_rfl) ?_
 unfold z93 at h
 obtain ⟨v1, k1, h⟩ := z07 h
 obtain ⟨v2, k2, h⟩ := z07 h
 obtain ⟨v3, k3, h⟩ := z07 h
 obtain rfl := retE h
 exact fin (ok X) 7 [.cb (z4x v1), .s (z2p v2) (z2q v2), .l (List.map z0a v3)] (pA (z70 (X := X) k1) (pA (z30 (X := X) k2) (pA (apm (L := v2.f_chans) (M := [a2]) zf2 k3) pT))) (by kernel_rfl)

theorem zf5 {a0 : z02} {a1 : (List ByteArray)} {a2 : ByteArray} {r : (z02 × (List ByteArray) × (List ByteArray))} (h : z94 a0 a1 a2 = some r) : Cs Tryz.prog (GX X) 39 [xP 0 0, xR 5, xS a2] [oB 85 [.pv (.sl (List.map z0e a0.f_s.Chans)), .pv (.sl (List.map z0i a0.f_s.Rules)), .pv (.sl (List.map z0g a0.f_s.Procs)), .row 1, .row 2, .row 3, .row 4, .pv (.int .i64 a0.f_proc), .pv (.sl (List.map z0a a0.f_vars)), .pv (.int .i64 a0.f_e)], oR false 46 6 (List.map z04 a0.f_p.Chans), oR false 51 2 (List.map z0b a0.f_p.Procs), oR false 9 1 (List.map z0a a0.f_chans), oR false 9 1 (List.map z0a a0.f_procs), oR false 9 1 (List.map z0a a1)] (zbj r) (zbk r) := by
 refine fnT (cx := cx X) Tryz.f39 Tryz.call39 Tryz.func39 (by kernel_rfl) ?_
 unfold z94 at h
 obtain ⟨v1, k1, h⟩ := z07 h
 obtain ⟨v2, k2, h⟩ := z07 h
 obtain ⟨v3, k3, h⟩ := z07 h
 obtain rfl := retE h
 exact fin (ok X) 7 [.cb (z4x v1), .s (z2p v2) (z2q v2), .l (List.map z0a v3)] (pA (z70 (X := X) k1) (pA (z30 (X := X) k2) (pA (apm (L := a1) (M := [a2]) zf2 k3) pT))) (by kernel_rfl)

theorem zf6 {a0 : z02} {a1 : (List ByteArray)} {r : z02} (h : z60 a0 a1 = some r) : Cs Tryz.prog (GX X) 40 [xP 0 0, xL (List.map z0a a1)] [oB 85 [.pv (.sl (List.map z0e a0.f_s.Chans)), .pv (.sl (List.map z0i a0.f_s.Rules)), .pv (.sl (List.map z0g a0.f_s.Procs)), .row 1, .row 2, .row 3, .row 4, .pv (.int .i64 a0.f_proc), .pv (.sl (List.map z0a a0.f_vars)), .pv (.int .i64 a0.f_e)], oR false 46 6 (List.map z04 a0.f_p.Chans), oR false 51 2 (List.map z0b a0.f_p.Procs), oR false 9 1 (List.map z0a a0.f_chans), oR false 9 1 (List.map z0a a0.f_procs)] (z9c r) (z9d r) := by
 refine fnT (cx := cx X) Tryz.f40 Tryz.call40 Tryz.func40 (by kernel_rfl) ?_
 unfold z60 at h
 refine adv (ok X) 4 [.i (a1.length : Int)] (pA (lm z0a a1) pT) (by kernel_rfl) ?_
 refine lp (ok X) (z8x a1) (fun (x1 : (Int × z02 × (List z0m) × (List z0w) × (List ByteArray) × (List ByteArray) × (List ByteArray))) => ⟨18, 5, [(0, [xP 0 0]), (4, [xR 5]), (7, [xL (List.map z0a a1)]), (8, [xI (a1.length : Int)]), (9, [xI x1.1])], [oB 85 [.pv (.sl (List.map z0e x1.2.1.f_s.Chans)), .pv (.sl (List.map z0i x1.2.1.f_s.Rules)), .pv (.sl (List.map z0g x1.2.1.f_s.Procs)), .row 1, .row 2, .row 3, .row 4, .pv (.int .i64 x1.2.1.f_proc), .pv (.sl (List.map z0a x1.2.1.f_vars)), .pv (.int .i64 x1.2.1.f_e)], oR false 46 6 (List.map z04 x1.2.2.1), oR false 51 2 (List.map z0b x1.2.2.2.1), oR false 9 1 (List.map z0a x1.2.2.2.2.1), oR false 9 1 (List.map z0a x1.2.2.2.2.2.1), oR true 9 1 (List.map z0a x1.2.2.2.2.2.2)]⟩) (fun (j1 : (z02 × (List z0m) × (List z0w) × (List ByteArray) × (List ByteArray))) => ⟨18, 5, [], [oB 85 [.pv (.sl (List.map z0e j1.1.f_s.Chans)), .pv (.sl (List.map z0i j1.1.f_s.Rules)), .pv (.sl (List.map z0g j1.1.f_s.Procs)), .row 1, .row 2, .row 3, .row 4, .pv (.int .i64 j1.1.f_proc), .pv (.sl (List.map z0a j1.1.f_vars)), .pv (.int .i64 j1.1.f_e)], oR false 46 6 (List.map z04 j1.2.1), oR false 51 2 (List.map z0b j1.2.2.1), oR false 9 1 (List.map z0a j1.2.2.2.1), oR false 9 1 (List.map z0a j1.2.2.2.2)]⟩) zjc (0, a0, a0.f_p.Chans, a0.f_p.Procs, a0.f_chans, a0.f_procs, []) (fun _ => ⟨_, _, _, _, rfl⟩) h (by kernel_rfl) (fun x1 o h => ?_) (fun r' h => ?_) (fun j1 h => ?_)
 ·unfold z8x at h
  rcases iteE h with ⟨k1, h⟩ | ⟨k1, h⟩
  ·obtain ⟨v1, k2, h⟩ := z07 h
   obtain ⟨v2, k3, h⟩ := z07 h
   obtain rfl := retE h
   exact fin (ok X) 12 [.b true, .e [.str v1], .s (zbj v2) (zbk v2)] (pA k1 (pA (ixm z0a k2) (pA (zf5 (X := X) k3) pT))) (by kernel_rfl)
  ·obtain rfl := retE h
   exact fin (ok X) 5 [.b false] (pA k1 pT) (by kernel_rfl)
 ·cases h
 ·obtain rfl := retE h
  exact fin (ok X) 0 [] pT (by kernel_rfl)

theorem zhr {a0 : z02} {r : z02} (h : z87 a0 = some r) : Cs Tryz.prog (GX X) 22 [xP 0 0] [oB 85 [.pv (.sl (List.map z0e a0.f_s.Chans)), .pv (.sl (List.map z0i a0.f_s.Rules)), .pv (.sl (List.map z0g a0.f_s.Procs)), .row 1, .row 2, .row 3, .row 4, .pv (.int .i64 a0.f_proc), .pv (.sl (List.map z0a a0.f_vars)), .pv (.int .i64 a0.f_e)], oR false 46 6 (List.map z04 a0.f_p.Chans), oR false 51 2 (List.map z0b a0.f_p.Procs), oR false 9 1 (List.map z0a a0.f_chans), oR false 9 1 (List.map z0a a0.f_procs)] (za7 r) (za8 r) := by
 refine fnT (cx := cx X) Tryz.f22 Tryz.call22 Tryz.func22 (by kernel_rfl) ?_
 unfold z87 at h
 obtain ⟨v1, k1, h⟩ := z07 h
 refine adv (ok X) 4 [.i (a0.f_s.Chans.length : Int), .s (z2p v1) (z2q v1), .i (v1.f_s.Chans.length : Int)] (pA (lm z0e a0.f_s.Chans) (pA (z30 (X := X) k1) (pA (lm z0e v1.f_s.Chans) pT))) (by kernel_rfl) ?_
 refine lp (ok X) (z8f v1) (fun (x1 : (Int × z02 × (List z0m) × (List z0w) × (List ByteArray) × (List ByteArray))) => ⟨74, 5, [(0, [xP 0 0]), (17, [xL (List.map z0e v1.f_s.Chans)]), (18, [xI (v1.f_s.Chans.length : Int)]), (19, [xI x1.1])], [oB 85 [.pv (.sl (List.map z0e x1.2.1.f_s.Chans)), .pv (.sl (List.map z0i x1.2.1.f_s.Rules)), .pv (.sl (List.map z0g x1.2.1.f_s.Procs)), .row 1, .row 2, .row 3, .row 4, .pv (.int .i64 x1.2.1.f_proc), .pv (.sl (List.map z0a x1.2.1.f_vars)), .pv (.int .i64 x1.2.1.f_e)], oR true 46 6 (List.map z04 x1.2.2.1), oR false 51 2 (List.map z0b x1.2.2.2.1), oR true 9 1 (List.map z0a x1.2.2.2.2.1), oR false 9 1 (List.map z0a x1.2.2.2.2.2)]⟩) (fun (j1 : (z02 × (List z0m) × (List z0w) × (List ByteArray) × (List ByteArray))) => ⟨74, 5, [], [oB 85 [.pv (.sl (List.map z0e j1.1.f_s.Chans)), .pv (.sl (List.map z0i j1.1.f_s.Rules)), .pv (.sl (List.map z0g j1.1.f_s.Procs)), .row 1, .row 2, .row 3, .row 4, .pv (.int .i64 j1.1.f_proc), .pv (.sl (List.map z0a j1.1.f_vars)), .pv (.int .i64 j1.1.f_e)], oR true 46 6 (List.map z04 j1.2.1), oR false 51 2 (List.map z0b j1.2.2.1), oR true 9 1 (List.map z0a j1.2.2.2.1), oR false 9 1 (List.map z0a j1.2.2.2.2)]⟩) zhi (0, v1, v1.f_p.Chans, v1.f_p.Procs, v1.f_chans, v1.f_procs) (fun _ => ⟨_, _, _, _, rfl⟩) h (by kernel_rfl) (fun x1 o h => ?_) (fun r' h => ?_) (fun j1 h => ?_)
 ·unfold z8f at h
  rcases iteE h with ⟨k2, h⟩ | ⟨k2, h⟩
  ·obtain ⟨v2, k3, h⟩ := z07 h
   obtain ⟨v3, k4, h⟩ := z07 h
   refine adv (ok X) 12 [.b true, .e (z0e v2), .o [0, 1, 2, 3, 4, 5, 6, 7, 8, 9, 10, 11], .s (zg8 v3) (zg9 v3)] (pA k2 (pA (ixm z0e k3) (pA (zlt (X := X) k4) pT))) (by kernel_rfl) ?_
   refine jn (ok X) 1 (fun (j2 : (z02 × (List z0m) × (List z0w) × (List ByteArray) × (List ByteArray))) => ⟨74, 5, [(0, [xP 0 0]), (3, [xP 5 0]), (17, [xL (List.map z0e v1.f_s.Chans)]), (18, [xI (v1.f_s.Chans.length : Int)]), (19, [xI x1.1])], [oB 85 [.pv (.sl (List.map z0e j2.1.f_s.Chans)), .pv (.sl (List.map z0i j2.1.f_s.Rules)), .pv (.sl (List.map z0g j2.1.f_s.Procs)), .row 1, .row 2, .row 3, .row 4, .pv (.int .i64 j2.1.f_proc), .pv (.sl (List.map z0a j2.1.f_vars)), .pv (.int .i64 j2.1.f_e)], oR true 46 6 (List.map z04 j2.2.1), oR false 51 2 (List.map z0b j2.2.2.1), oR true 9 1 (List.map z0a j2.2.2.2.1), oR false 9 1 (List.map z0a j2.2.2.2.2), oB 71 (bs (z0e v2))]⟩) h (fun j2 h => ?_) (fun j2 h => ?_)
   ·rcases iteE h with ⟨k5, h⟩ | ⟨k5, h⟩
    ·rcases iteE h with ⟨k6, h⟩ | ⟨k6, h⟩
     ·obtain ⟨v4, k7, h⟩ := z07 h
      obtain rfl := retE h
      exact fin (ok X) 1 (bT 7 [.i (v2.Tags.length : Int), .b true, .b true, .s (z2p v4) (z2q v4)]) (pR 4 k5 (pR 3 k6 (pA (lm z0a v2.Tags) (pA k6 (pA k6 (pA (z30 (X := X) k7) pT)))))) (by kernel_rfl)
     ·obtain ⟨v5, k8, h⟩ := z07 h
      obtain rfl := retE h
      exact fin (ok X) 1 (bT 4 (bF 5 [.s (z2p v5) (z2q v5)])) (pR 4 k5 (pR 5 k6 (pA (z30 (X := X) k8) pT))) (by kernel_rfl)
    ·obtain ⟨v6, k9, h⟩ := z07 h
     obtain rfl := retE h
     exact fin (ok X) 1 (bF 9 [.s (z2p v6) (z2q v6)]) (pR 4 k5 (pR 5 ff (pA (z30 (X := X) k9) pT))) (by kernel_rfl)
   ·obtain ⟨v7, k10, h⟩ := z07 h
    obtain ⟨v8, k11, h⟩ := z07 h
    obtain rfl := retE h
    exact fin (ok X) 5 [.s (z9c v7) (z9d v7), .o [0, 1, 2, 3, 4, 5, 6, 7, 8, 9, 10, 11, 12, 13, 14, 15, 16, 17, 18, 19], .i (v2.Tags.length : Int), .l (List.map z04 v8)] (pA (zf6 (X := X) k10) (pA (lm z0a v2.Tags) (pA (apm (L := v7.f_p.Chans) (M := [(z0m.mk v2.Kind v2.Size 0 0 (v2.Tags.length : Int) [])]) zgy k11) pT))) (by kernel_rfl)
  ·obtain rfl := retE h
   exact fin (ok X) 5 [.b false] (pA k2 pT) (by kernel_rfl)
 ·cases h
 ·obtain rfl := retE h
  exact fin (ok X) 0 [] pT (by kernel_rfl)

theorem zjp {a0 : z02} {a2 : ByteArray} {r : (z02 × (List ByteArray))} (h : z61 a0 a2 = some r) : Cs Tryz.prog (GX X) 39 [xP 0 0, xR 4, xS a2] [oB 85 [.pv (.sl (List.map z0e a0.f_s.Chans)), .pv (.sl (List.map z0i a0.f_s.Rules)), .pv (.sl (List.map z0g a0.f_s.Procs)), .row 1, .row 2, .row 3, .row 4, .pv (.int .i64 a0.f_proc), .pv (.sl (List.map z0a a0.f_vars)), .pv (.int .i64 a0.f_e)], oR false 46 6 (List.map z04 a0.f_p.Chans), oR false 51 2 (List.map z0b a0.f_p.Procs), oR false 9 1 (List.map z0a a0.f_chans), oR false 9 1 (List.map z0a a0.f_procs)] (zet r) (zeu r) := by
 refine fnT (cx := cx X) Tryz.f39 Tryz.call39 Tryz.func39 (by kernel_rfl) ?_
 unfold z61 at h
 obtain ⟨v1, k1, h⟩ := z07 h
 obtain ⟨v2, k2, h⟩ := z07 h
 obtain ⟨v3, k3, h⟩ := z07 h
 obtain rfl := retE h
 exact fin (ok X) 7 [.cb (z4x v1), .s (z2p v2) (z2q v2), .l (List.map z0a v3)] (pA (z70 (X := X) k1) (pA (z30 (X := X) k2) (pA (apm (L := v2.f_procs) (M := [a2]) zf2 k3) pT))) (by kernel_rfl)

theorem zf7 {a0 : z02} {a2 : ByteArray} {r : (z02 × Int)} (h : z5d a0 a2 = some r) : Cs Tryz.prog (GX X) 41 [xP 0 0, xR 4, xS a2] [oB 85 [.pv (.sl (List.map z0e a0.f_s.Chans)), .pv (.sl (List.map z0i a0.f_s.Rules)), .pv (.sl (List.map z0g a0.f_s.Procs)), .row 1, .row 2, .row 3, .row 4, .pv (.int .i64 a0.f_proc), .pv (.sl (List.map z0a a0.f_vars)), .pv (.int .i64 a0.f_e)], oR false 46 6 (List.map z04 a0.f_p.Chans), oR false 51 2 (List.map z0b a0.f_p.Procs), oR false 9 1 (List.map z0a a0.f_chans), oR false 9 1 (List.map z0a a0.f_procs)] (zbl r) (zbm r) := by
 refine fnT (cx := cx X) Tryz.f41 Tryz.call41 Tryz.func41 (by kernel_rfl) ?_
 unfold z5d at h
 obtain ⟨v1, k1, h⟩ := z07 h
 obtain ⟨v2, k2, h⟩ := z07 h
 obtain rfl := retE h
 exact fin (ok X) 9 [.cb (z3y v1), .s (z2p v2) (z2q v2)] (pA (z66 (X := X) k1) (pA (z30 (X := X) k2) pT)) (by kernel_rfl)

theorem zks {a0 : z02} {r : z02} (h : z9i a0 = some r) : Cs Tryz.prog (GX X) 23 [xP 0 0] [oB 85 [.pv (.sl (List.map z0e a0.f_s.Chans)), .pv (.sl (List.map z0i a0.f_s.Rules)), .pv (.sl (List.map z0g a0.f_s.Procs)), .row 1, .row 2, .row 3, .row 4, .pv (.int .i64 a0.f_proc), .pv (.sl (List.map z0a a0.f_vars)), .pv (.int .i64 a0.f_e)], oR false 46 6 (List.map z04 a0.f_p.Chans), oR false 51 2 (List.map z0b a0.f_p.Procs), oR false 9 1 (List.map z0a a0.f_chans), oR false 9 1 (List.map z0a a0.f_procs)] (zcd r) (zce r) := by
 refine fnT (cx := cx X) Tryz.f23 Tryz.call23 Tryz.func23 (by kernel_rfl) ?_
 unfold z9i at h
 refine adv (ok X) 3 [.i (a0.f_s.Procs.length : Int)] (pA (lm z0g a0.f_s.Procs) pT) (by kernel_rfl) ?_
 refine jn (ok X) 1 (fun (j1 : (z02 × (List z0m) × (List z0w) × (List ByteArray) × (List ByteArray))) => ⟨96, 5, [(0, [xP 0 0])], [oB 85 [.pv (.sl (List.map z0e j1.1.f_s.Chans)), .pv (.sl (List.map z0i j1.1.f_s.Rules)), .pv (.sl (List.map z0g j1.1.f_s.Procs)), .row 1, .row 2, .row 3, .row 4, .pv (.int .i64 j1.1.f_proc), .pv (.sl (List.map z0a j1.1.f_vars)), .pv (.int .i64 j1.1.f_e)], oR false 46 6 (List.map z04 j1.2.1), oR false 51 2 (List.map z0b j1.2.2.1), oR false 9 1 (List.map z0a j1.2.2.2.1), oR false 9 1 (List.map z0a j1.2.2.2.2)]⟩) h (fun j1 h => ?_) (fun j1 h => ?_)
 ·rcases iteE h with ⟨k1, h⟩ | ⟨k1, h⟩
  ·obtain ⟨v1, k2, h⟩ := z07 h
   obtain rfl := retE h
   exact fin (ok X) 1 (bT 3 [.s (z2p v1) (z2q v1)]) (pR 3 k1 (pA (z30 (X := X) k2) pT)) (by kernel_rfl)
  ·obtain ⟨v2, k3, h⟩ := z07 h
   obtain rfl := retE h
   exact fin (ok X) 1 (bF 3 [.s (z2p v2) (z2q v2)]) (pR 3 k1 (pA (z30 (X := X) k3) pT)) (by kernel_rfl)
 ·refine adv (ok X) 3 [.i (j1.1.f_s.Procs.length : Int)] (pA (lm z0g j1.1.f_s.Procs) pT) (by kernel_rfl) ?_
  refine lp (ok X) (z68 j1) (fun (x2 : (Int × z02 × (List z0m) × (List z0w) × (List ByteArray) × (List ByteArray))) => ⟨96, 5, [(0, [xP 0 0]), (26, [xL (List.map z0g j1.1.f_s.Procs)]), (27, [xI (j1.1.f_s.Procs.length : Int)]), (28, [xI x2.1])], [oB 85 [.pv (.sl (List.map z0e x2.2.1.f_s.Chans)), .pv (.sl (List.map z0i x2.2.1.f_s.Rules)), .pv (.sl (List.map z0g x2.2.1.f_s.Procs)), .row 1, .row 2, .row 3, .row 4, .pv (.int .i64 x2.2.1.f_proc), .pv (.sl (List.map z0a x2.2.1.f_vars)), .pv (.int .i64 x2.2.1.f_e)], oR false 46 6 (List.map z04 x2.2.2.1), oR false 51 2 (List.map z0b x2.2.2.2.1), oR false 9 1 (List.map z0a x2.2.2.2.2.1), oR true 9 1 (List.map z0a x2.2.2.2.2.2)]⟩) (fun (j2 : (z02 × (List z0m) × (List z0w) × (List ByteArray) × (List ByteArray))) => ⟨96, 5, [(0, [xP 0 0])], [oB 85 [.pv (.sl (List.map z0e j2.1.f_s.Chans)), .pv (.sl (List.map z0i j2.1.f_s.Rules)), .pv (.sl (List.map z0g j2.1.f_s.Procs)), .row 1, .row 2, .row 3, .row 4, .pv (.int .i64 j2.1.f_proc), .pv (.sl (List.map z0a j2.1.f_vars)), .pv (.int .i64 j2.1.f_e)], oR false 46 6 (List.map z04 j2.2.1), oR false 51 2 (List.map z0b j2.2.2.1), oR false 9 1 (List.map z0a j2.2.2.2.1), oR true 9 1 (List.map z0a j2.2.2.2.2)]⟩) zfj (0, (z02.mk j1.1.f_s (z10.mk j1.2.1 j1.2.2.1) j1.2.2.2.1 j1.2.2.2.2 j1.1.f_proc j1.1.f_vars j1.1.f_e), j1.2.1, j1.2.2.1, j1.2.2.2.1, j1.2.2.2.2) (fun _ => ⟨_, _, _, _, rfl⟩) h (by kernel_rfl) (fun x2 o h => ?_) (fun r' h => ?_) (fun j2 h => ?_)
  ·unfold z68 at h
   rcases iteE h with ⟨k4, h⟩ | ⟨k4, h⟩
   ·obtain ⟨v3, k5, h⟩ := z07 h
    obtain ⟨v4, k6, h⟩ := z07 h
    obtain rfl := retE h
    exact fin (ok X) 12 [.b true, .e (z0g v3), .o [0, 1, 2, 3, 4, 5, 6, 7, 8, 9, 10, 11], .s (zet v4) (zeu v4)] (pA k4 (pA (ixm z0g k5) (pA (zjp (X := X) k6) pT))) (by kernel_rfl)
   ·obtain rfl := retE h
    exact fin (ok X) 5 [.b false] (pA k4 pT) (by kernel_rfl)
  ·cases h
  ·refine adv (ok X) 2 [.i (j2.1.f_s.Chans.length : Int)] (pA (lm z0e j2.1.f_s.Chans) pT) (by kernel_rfl) ?_
   refine lp (ok X) (z79 j2) (fun (x3 : (Int × z02 × (List z0m) × (List z0w) × (List ByteArray) × (List ByteArray))) => ⟨96, 5, [(0, [xP 0 0]), (48, [xL (List.map z0e j2.1.f_s.Chans)]), (49, [xI (j2.1.f_s.Chans.length : Int)]), (50, [xI x3.1])], [oB 85 [.pv (.sl (List.map z0e x3.2.1.f_s.Chans)), .pv (.sl (List.map z0i x3.2.1.f_s.Rules)), .pv (.sl (List.map z0g x3.2.1.f_s.Procs)), .row 1, .row 2, .row 3, .row 4, .pv (.int .i64 x3.2.1.f_proc), .pv (.sl (List.map z0a x3.2.1.f_vars)), .pv (.int .i64 x3.2.1.f_e)], oR false 46 6 (List.map z04 x3.2.2.1), oR false 51 2 (List.map z0b x3.2.2.2.1), oR false 9 1 (List.map z0a x3.2.2.2.2.1), oR true 9 1 (List.map z0a x3.2.2.2.2.2)]⟩) (fun (j3 : (z02 × (List z0m) × (List z0w) × (List ByteArray) × (List ByteArray))) => ⟨96, 5, [], [oB 85 [.pv (.sl (List.map z0e j3.1.f_s.Chans)), .pv (.sl (List.map z0i j3.1.f_s.Rules)), .pv (.sl (List.map z0g j3.1.f_s.Procs)), .row 1, .row 2, .row 3, .row 4, .pv (.int .i64 j3.1.f_proc), .pv (.sl (List.map z0a j3.1.f_vars)), .pv (.int .i64 j3.1.f_e)], oR false 46 6 (List.map z04 j3.2.1), oR false 51 2 (List.map z0b j3.2.2.1), oR false 9 1 (List.map z0a j3.2.2.2.1), oR true 9 1 (List.map z0a j3.2.2.2.2)]⟩) zfj (0, (z02.mk j2.1.f_s (z10.mk j2.2.1 j2.2.2.1) j2.2.2.2.1 j2.2.2.2.2 j2.1.f_proc j2.1.f_vars j2.1.f_e), j2.2.1, j2.2.2.1, j2.2.2.2.1, j2.2.2.2.2) (fun _ => ⟨_, _, _, _, rfl⟩) h (by kernel_rfl) (fun x3 o h => ?_) (fun r' h => ?_) (fun j3 h => ?_)
   ·unfold z79 at h
    rcases iteE h with ⟨k7, h⟩ | ⟨k7, h⟩
    ·obtain ⟨v5, k8, h⟩ := z07 h
     obtain ⟨v6, k9, h⟩ := z07 h
     obtain ⟨v7, k10, h⟩ := z07 h
     obtain ⟨v8, k11, h⟩ := z07 h
     obtain ⟨v9, k12, h⟩ := z07 h
     obtain ⟨v10, k13, h⟩ := z07 h
     obtain ⟨v11, k14, h⟩ := z07 h
     obtain ⟨v12, k15, h⟩ := z07 h
     obtain rfl := retE h
     exact fin (ok X) 18 [.b true, .e (z0e v5), .e (z04 v6), .o [0, 1, 2, 3, 4, 5, 6, 7, 8, 9, 10, 11], .s (zbl v7) (zbm v7), .se (z04 v8) (List.map z04 (seti v7.1.f_p.Chans x3.1 (z0m.mk v8.Kind v8.Size v7.2 v8.To v8.Tags v8.Rule))), .o [0, 1, 2, 3, 4, 5, 6, 7, 8, 9, 10, 11], .s (zbl v9) (zbm v9), .se (z04 v10) (List.map z04 (seti v9.1.f_p.Chans x3.1 (z0m.mk v10.Kind v10.Size v10.From v9.2 v10.Tags v10.Rule))), .o [0, 1, 2, 3, 4, 5, 6, 7, 8, 9, 10], .e (z04 v11), .e (z04 v11), .s (z2p v12) (z2q v12)] (pA k7 (pA (ixm z0e k8) (pA (ixm z04 k9) (pA (zf7 (X := X) k10) (pA (rwm z04 k11) (pA (sem z04 v7.1.f_p.Chans x3.1 (z0m.mk v8.Kind v8.Size v7.2 v8.To v8.Tags v8.Rule)) (pA (zf7 (X := X) k12) (pA (rwm z04 k13) (pA (sem z04 v9.1.f_p.Chans x3.1 (z0m.mk v10.Kind v10.Size v10.From v9.2 v10.Tags v10.Rule)) (pA (rwm z04 k14) (pA (rwm z04 k14) (pA (z30 (X := X) k15) pT)))))))))))) (by kernel_rfl)
    ·obtain rfl := retE h
     exact fin (ok X) 5 [.b false] (pA k7 pT) (by kernel_rfl)
   ·cases h
   ·obtain rfl := retE h
    exact fin (ok X) 0 [] pT (by kernel_rfl)

theorem z6j {a0 : z02} {a1 : (List ByteArray)} {a2 : ByteArray} {r : (z02 × Int)} (h : z4j a0 a1 a2 = some r) : Cs Tryz.prog (GX X) 41 [xP 0 0, xL (List.map z0a a1), xS a2] [oB 85 [.pv (.sl (List.map z0e a0.f_s.Chans)), .pv (.sl (List.map z0i a0.f_s.Rules)), .pv (.sl (List.map z0g a0.f_s.Procs)), .row 1, .row 2, .row 3, .row 4, .pv (.int .i64 a0.f_proc), .pv (.sl (List.map z0a a0.f_vars)), .pv (.int .i64 a0.f_e)], oR false 46 6 (List.map z04 a0.f_p.Chans), oR false 51 2 (List.map z0b a0.f_p.Procs), oR false 9 1 (List.map z0a a0.f_chans), oR false 9 1 (List.map z0a a0.f_procs)] (z5r r) (z5s r) := by
 refine fnT (cx := cx X) Tryz.f41 Tryz.call41 Tryz.func41 (by kernel_rfl) ?_
 unfold z4j at h
 obtain ⟨v1, k1, h⟩ := z07 h
 obtain ⟨v2, k2, h⟩ := z07 h
 obtain rfl := retE h
 exact fin (ok X) 9 [.c (z3y v1), .s (z2p v2) (z2q v2)] (pA (z66 (X := X) k1) (pA (z30 (X := X) k2) pT)) (by kernel_rfl)
end Go.Proofs.YtgmbfjcidiedfaaGreatDoor.Abs

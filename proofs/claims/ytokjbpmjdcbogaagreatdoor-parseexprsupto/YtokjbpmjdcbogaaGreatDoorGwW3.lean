/- Gw: the functions are these. -/
import Derived.Test.YtokjbpmjdcbogaaGreatDoorGwW2
namespace Go.Proofs.YtokjbpmjdcbogaaGreatDoor.Abs
open Go Go.RowKit
set_option linter.unusedVariables false
set_option maxRecDepth 100000
set_option maxHeartbeats 4000000
variable {X:EV}
theorem zgq:∀ n:Nat,(∀ (a0:z06) (a1:z06) (r:Bool),z5o n a0 a1=some r→Cv Tryz.prog (GX X) 69 [.agg (bs (z3d a0)),.agg (bs (z3d a1))] (z5g r))∧(∀ (a0:(List z06)) (a1:(List z06)) (r:Bool),z2n n a0 a1=some r→Cv Tryz.prog (GX X) 101 [xL (List.map z15 a0),xL (List.map z15 a1),.fn (.func 69) [] []] (z4n r))
 | 0=>⟨(fun _ _ _ h=>by rw [z5o] at h;cases h),(fun _ _ _ h=>by rw [z2n] at h;cases h)⟩
 | n+1=>by
  have ih:=zgq n
  exact ⟨zok ih.1 ih.2,zft ih.1 ih.2⟩
theorem zas {a0:z06} {a1:z06} {r:Bool} (h:zc2 a0 a1=some r):Cv Tryz.prog (GX X) 69 [.agg (bs (z3d a0)),.agg (bs (z3d a1))] (z5g r):=by
 obtain ⟨n,hn⟩:=unfE h
 exact (zgq n).1 _ _ _ hn
theorem z9g {a0:z3t} {a1:z3t} {r:Bool} (h:z9v a0 a1=some r):Cv Tryz.prog (GX X) 70 [.agg (bs (ze4 a0)),.agg (bs (ze4 a1))] (z7o r):=by
 refine Cs.toV (?_:Cs Tryz.prog (GX X) 70 [.agg (bs (ze4 a0)),.agg (bs (ze4 a1))] [] (z7o r) (zo9 r)) (by kernel_rfl)
 refine fnT (cx:=cx X) Tryz.f70 Tryz.call70 Tryz.func70 (by kernel_rfl) ?_
 unfold z9v at h
 rcases iteE h with ⟨k1,h⟩|⟨k1,h⟩
 ·obtain ⟨v1,k2,h⟩:=z07 h
  rcases iteE h with ⟨k3,h⟩|⟨k3,h⟩
  ·obtain ⟨v2,k4,h⟩:=z07 h
   obtain rfl:=retE h
   exact fin (ok X) 5 (bT 5 (.c (z5g v1)::bT 6 [.c (z5g v2),.b true])) (pR 5 k1 (pA (zas (X:=X) k2) (pA k1 (pR 5 k3 (pA (zas (X:=X) k4) (pA k3 pT)))))) (by kernel_rfl)
  ·obtain rfl:=retE h
   exact fin (ok X) 5 (bT 5 (.c (z5g v1)::.b true::bF 6 [])) (pR 5 k1 (pA (zas (X:=X) k2) (pA k1 (pR 6 k3 pT)))) (by kernel_rfl)
 ·obtain rfl:=retE h
  exact fin (ok X) 5 (bF 12 []) (pR 6 k1 (pR 6 ff pT)) (by kernel_rfl)
theorem zfu {n:Nat} (ih_ast_Stmt__ast_sameStmt:∀ (a0:(List z05)) (a1:(List z05)) (r:Bool),z13 n a0 a1=some r→Cv Tryz.prog (GX X) 39 [xL (List.map z16 a0),xL (List.map z16 a1),.fn (.func 40) [] []] (z1n r)) (ih_ast_sameStmt:∀ (a0:z05) (a1:z05) (r:Bool),z41 n a0 a1=some r→Cv Tryz.prog (GX X) 40 [.agg (bs (z2p a0)),.agg (bs (z2p a1))] (z7p r)) (ih_ast_Arm__ast_sameArm:∀ (a0:(List z0y)) (a1:(List z0y)) (r:Bool),z1s n a0 a1=some r→Cv Tryz.prog (GX X) 71 [xL (List.map z2l a0),xL (List.map z2l a1),.fn (.func 72) [] []] (z40 r)) (ih_ast_sameArm:∀ (a0:z0y) (a1:z0y) (r:Bool),z4p n a0 a1=some r→Cv Tryz.prog (GX X) 72 [.agg (bs (z6x a0)),.agg (bs (z6x a1))] (z8l r)) (a0:(List z05)) (a1:(List z05)) (r:Bool) (h:z13 (n+1) a0 a1=some r):Cv Tryz.prog (GX X) 39 [xL (List.map z16 a0),xL (List.map z16 a1),.fn (.func 40) [] []] (z1n r):=by
 refine Cs.toV (?_:Cs Tryz.prog (GX X) 39 [xL (List.map z16 a0),xL (List.map z16 a1),.fn (.func 40) [] []] [] (z1n r) (zc3 r)) (by kernel_rfl)
 refine fnT (cx:=cx X) Tryz.f39 Tryz.call39 Tryz.func39 (by kernel_rfl) ?_
 rw [z13] at h
 refine adv (ok X) 5 [.i (a0.length:Int),.i (a1.length:Int)] (pA (lm z16 a0) (pA (lm z16 a1) pT)) (by kernel_rfl) ?_
 rcases iteE h with ⟨k1,h⟩|⟨k1,h⟩
 ·obtain rfl:=retE h
  exact fin (ok X) 4 [.b true] (pA k1 pT) (by kernel_rfl)
 ·refine adv (ok X) 5 [.b false,.i (a0.length:Int)] (pA k1 (pA (lm z16 a0) pT)) (by kernel_rfl) ?_
  refine lp (ok X) (z50 (z13 n) (z41 n) (z1s n) (z4p n) a0 a1) (fun (x1:Int)=>⟨32,0,[(1,[xL (List.map z16 a1)]),(2,[.fn (.func 40) [] []]),(15,[xL (List.map z16 a0)]),(16,[xI (a0.length:Int)]),(17,[xI x1])],[]⟩) (fun (j1:Unit)=>⟨32,0,[],[]⟩) zfo 0 (fun _=>⟨_,_,_,_,rfl⟩) h (by kernel_rfl) (fun x1 o h=>?_) (fun r' h=>?_) (fun j1 h=>?_)
  ·unfold z50 at h
   rcases iteE h with ⟨k2,h⟩|⟨k2,h⟩
   ·obtain ⟨v1,k3,h⟩:=z07 h
    obtain ⟨v2,k4,h⟩:=z07 h
    obtain ⟨v3,k5,h⟩:=z07 h
    refine adv (ok X) 13 [.b true,.e (z2p v1),.e (z2p v2),.c (z7p v3)] (pA k2 (pA (ixr z45 k3) (pA (ixr z45 k4) (pA (ih_ast_sameStmt _ _ _ k5) pT)))) (by kernel_rfl) ?_
    rcases iteE h with ⟨k6,h⟩|⟨k6,h⟩
    ·obtain rfl:=retE h
     exact fin (ok X) 4 [.b true] (pA k6 pT) (by kernel_rfl)
    ·obtain rfl:=retE h
     exact fin (ok X) 4 [.b false] (pA k6 pT) (by kernel_rfl)
   ·obtain rfl:=retE h
    exact fin (ok X) 5 [.b false] (pA k2 pT) (by kernel_rfl)
  ·obtain rfl:=retE h
   kernel_rfl
  ·obtain rfl:=retE h
   exact fin (ok X) 3 [] pT (by kernel_rfl)
theorem zol {n:Nat} (ih_ast_Stmt__ast_sameStmt:∀ (a0:(List z05)) (a1:(List z05)) (r:Bool),z13 n a0 a1=some r→Cv Tryz.prog (GX X) 39 [xL (List.map z16 a0),xL (List.map z16 a1),.fn (.func 40) [] []] (z1n r)) (ih_ast_sameStmt:∀ (a0:z05) (a1:z05) (r:Bool),z41 n a0 a1=some r→Cv Tryz.prog (GX X) 40 [.agg (bs (z2p a0)),.agg (bs (z2p a1))] (z7p r)) (ih_ast_Arm__ast_sameArm:∀ (a0:(List z0y)) (a1:(List z0y)) (r:Bool),z1s n a0 a1=some r→Cv Tryz.prog (GX X) 71 [xL (List.map z2l a0),xL (List.map z2l a1),.fn (.func 72) [] []] (z40 r)) (ih_ast_sameArm:∀ (a0:z0y) (a1:z0y) (r:Bool),z4p n a0 a1=some r→Cv Tryz.prog (GX X) 72 [.agg (bs (z6x a0)),.agg (bs (z6x a1))] (z8l r)) (a0:z05) (a1:z05) (r:Bool) (h:z41 (n+1) a0 a1=some r):Cv Tryz.prog (GX X) 40 [.agg (bs (z2p a0)),.agg (bs (z2p a1))] (z7p r):=by
 refine Cs.toV (?_:Cs Tryz.prog (GX X) 40 [.agg (bs (z2p a0)),.agg (bs (z2p a1))] [] (z7p r) (zoa r)) (by kernel_rfl)
 refine fnT (cx:=cx X) Tryz.f40 Tryz.call40 Tryz.func40 (by kernel_rfl) ?_
 rw [z41] at h
 rcases iteE h with ⟨k1,h⟩|⟨k1,h⟩
 ·obtain rfl:=retE h
  exact fin (ok X) 9 [.b true] (pA k1 pT) (by kernel_rfl)
 ·refine adv (ok X) 13 [.b false] (pA k1 pT) (by kernel_rfl) ?_
  rcases iteE h with ⟨k2,h⟩|⟨k2,h⟩
  ·refine adv (ok X) 2 [.b true] (pA k2 pT) (by kernel_rfl) ?_
   refine jn (ok X) 1 (fun (j1:Bool)=>⟨110,0,[(4,[xB j1])],[]⟩) h (fun j1 h=>?_) (fun j1 h=>?_)
   ·rcases iteE h with ⟨k3,h⟩|⟨k3,h⟩
    ·obtain ⟨v1,k4,h⟩:=z07 h
     obtain rfl:=retE h
     exact fin (ok X) 1 (bT 5 [.c (z5g v1),.b true]) (pR 5 k3 (pA (zas (X:=X) k4) (pA k3 pT))) (by kernel_rfl)
    ·obtain rfl:=retE h
     exact fin (ok X) 1 (bF 6 []) (pR 6 k3 pT) (by kernel_rfl)
   ·obtain rfl:=retE h
    exact fin (ok X) 1 [] pT (by kernel_rfl)
  ·refine adv (ok X) 3 [.b false] (pA k2 pT) (by kernel_rfl) ?_
   rcases iteE h with ⟨k5,h⟩|⟨k5,h⟩
   ·refine adv (ok X) 2 [.b true] (pA k5 pT) (by kernel_rfl) ?_
    refine jn (ok X) 1 (fun (j2:Bool)=>⟨110,0,[(4,[xB j2])],[]⟩) h (fun j2 h=>?_) (fun j2 h=>?_)
    ·obtain ⟨v2,k6,h⟩:=z07 h
     rcases iteE h with ⟨k7,h⟩|⟨k7,h⟩
     ·obtain ⟨v3,k8,h⟩:=z07 h
      rcases iteE h with ⟨k9,h⟩|⟨k9,h⟩
      ·obtain ⟨v4,k10,h⟩:=z07 h
       obtain rfl:=retE h
       exact fin (ok X) 1 (.c (z7o v2)::bT 5 (.c (z1n v3)::bT 6 [.c (z1n v4),.b true])) (pA (z9g (X:=X) k6) (pR 5 k7 (pA (ih_ast_Stmt__ast_sameStmt _ _ _ k8) (pA k7 (pR 5 k9 (pA (ih_ast_Stmt__ast_sameStmt _ _ _ k10) (pA k9 pT))))))) (by kernel_rfl)
      ·obtain rfl:=retE h
       exact fin (ok X) 1 (.c (z7o v2)::bT 5 (.c (z1n v3)::.b true::bF 6 [])) (pA (z9g (X:=X) k6) (pR 5 k7 (pA (ih_ast_Stmt__ast_sameStmt _ _ _ k8) (pA k7 (pR 6 k9 pT))))) (by kernel_rfl)
     ·obtain rfl:=retE h
      exact fin (ok X) 1 (.c (z7o v2)::bF 12 []) (pA (z9g (X:=X) k6) (pR 6 k7 (pR 6 ff pT))) (by kernel_rfl)
    ·obtain rfl:=retE h
     exact fin (ok X) 1 [] pT (by kernel_rfl)
   ·refine adv (ok X) 3 [.b false] (pA k5 pT) (by kernel_rfl) ?_
    rcases iteE h with ⟨k11,h⟩|⟨k11,h⟩
    ·refine adv (ok X) 2 [.b true] (pA k11 pT) (by kernel_rfl) ?_
     refine jn (ok X) 1 (fun (j3:Bool)=>⟨110,0,[(4,[xB j3])],[]⟩) h (fun j3 h=>?_) (fun j3 h=>?_)
     ·obtain ⟨v5,k12,h⟩:=z07 h
      rcases iteE h with ⟨k13,h⟩|⟨k13,h⟩
      ·obtain ⟨v6,k14,h⟩:=z07 h
       obtain rfl:=retE h
       exact fin (ok X) 1 (.c (z7o v5)::bT 5 [.c (z1n v6),.b true]) (pA (z9g (X:=X) k12) (pR 5 k13 (pA (ih_ast_Stmt__ast_sameStmt _ _ _ k14) (pA k13 pT)))) (by kernel_rfl)
      ·obtain rfl:=retE h
       exact fin (ok X) 1 (.c (z7o v5)::bF 6 []) (pA (z9g (X:=X) k12) (pR 6 k13 pT)) (by kernel_rfl)
     ·obtain rfl:=retE h
      exact fin (ok X) 1 [] pT (by kernel_rfl)
    ·refine adv (ok X) 3 [.b false] (pA k11 pT) (by kernel_rfl) ?_
     rcases iteE h with ⟨k15,h⟩|⟨k15,h⟩
     ·refine adv (ok X) 2 [.b true] (pA k15 pT) (by kernel_rfl) ?_
      refine jn (ok X) 1 (fun (j4:Bool)=>⟨110,0,[(4,[xB j4])],[]⟩) h (fun j4 h=>?_) (fun j4 h=>?_)
      ·rcases iteE h with ⟨k16,h⟩|⟨k16,h⟩
       ·rcases iteE h with ⟨k17,h⟩|⟨k17,h⟩
        ·obtain ⟨v7,k18,h⟩:=z07 h
         obtain rfl:=retE h
         exact fin (ok X) 1 (bT 11 [.c (z5g v7),.b true]) (pR 6 k16 (pR 5 k17 (pA (zas (X:=X) k18) (pA k17 pT)))) (by kernel_rfl)
        ·obtain rfl:=retE h
         exact fin (ok X) 1 (bT 6 (bF 6 [])) (pR 6 k16 (pR 6 k17 pT)) (by kernel_rfl)
       ·obtain rfl:=retE h
        exact fin (ok X) 1 (bF 12 []) (pR 6 k16 (pR 6 ff pT)) (by kernel_rfl)
      ·obtain rfl:=retE h
       exact fin (ok X) 1 [] pT (by kernel_rfl)
     ·refine adv (ok X) 3 [.b false] (pA k15 pT) (by kernel_rfl) ?_
      rcases iteE h with ⟨k19,h⟩|⟨k19,h⟩
      ·refine adv (ok X) 2 [.b true] (pA k19 pT) (by kernel_rfl) ?_
       refine jn (ok X) 1 (fun (j5:Bool)=>⟨110,0,[(4,[xB j5])],[]⟩) h (fun j5 h=>?_) (fun j5 h=>?_)
       ·rcases iteE h with ⟨k20,h⟩|⟨k20,h⟩
        ·obtain ⟨v8,k21,h⟩:=z07 h
         obtain rfl:=retE h
         exact fin (ok X) 1 (bT 5 [.c (z40 v8),.b true]) (pR 5 k20 (pA (ih_ast_Arm__ast_sameArm _ _ _ k21) (pA k20 pT))) (by kernel_rfl)
        ·obtain rfl:=retE h
         exact fin (ok X) 1 (bF 6 []) (pR 6 k20 pT) (by kernel_rfl)
       ·obtain rfl:=retE h
        exact fin (ok X) 1 [] pT (by kernel_rfl)
      ·refine adv (ok X) 3 [.b false] (pA k19 pT) (by kernel_rfl) ?_
       rcases iteE h with ⟨k22,h⟩|⟨k22,h⟩
       ·obtain ⟨v9,k23,h⟩:=z07 h
        obtain rfl:=retE h
        exact fin (ok X) 4 [.b true,.c (z7o v9)] (pA k22 (pA (z9g (X:=X) k23) pT)) (by kernel_rfl)
       ·refine adv (ok X) 3 [.b false] (pA k22 pT) (by kernel_rfl) ?_
        rcases iteE h with ⟨k24,h⟩|⟨k24,h⟩
        ·obtain rfl:=retE h
         exact fin (ok X) 4 [.b true] (pA k24 pT) (by kernel_rfl)
        ·obtain rfl:=retE h
         exact fin (ok X) 6 [.b false] (pA k24 pT) (by kernel_rfl)
theorem zh1 {n:Nat} (ih_ast_Stmt__ast_sameStmt:∀ (a0:(List z05)) (a1:(List z05)) (r:Bool),z13 n a0 a1=some r→Cv Tryz.prog (GX X) 39 [xL (List.map z16 a0),xL (List.map z16 a1),.fn (.func 40) [] []] (z1n r)) (ih_ast_sameStmt:∀ (a0:z05) (a1:z05) (r:Bool),z41 n a0 a1=some r→Cv Tryz.prog (GX X) 40 [.agg (bs (z2p a0)),.agg (bs (z2p a1))] (z7p r)) (ih_ast_Arm__ast_sameArm:∀ (a0:(List z0y)) (a1:(List z0y)) (r:Bool),z1s n a0 a1=some r→Cv Tryz.prog (GX X) 71 [xL (List.map z2l a0),xL (List.map z2l a1),.fn (.func 72) [] []] (z40 r)) (ih_ast_sameArm:∀ (a0:z0y) (a1:z0y) (r:Bool),z4p n a0 a1=some r→Cv Tryz.prog (GX X) 72 [.agg (bs (z6x a0)),.agg (bs (z6x a1))] (z8l r)) (a0:(List z0y)) (a1:(List z0y)) (r:Bool) (h:z1s (n+1) a0 a1=some r):Cv Tryz.prog (GX X) 71 [xL (List.map z2l a0),xL (List.map z2l a1),.fn (.func 72) [] []] (z40 r):=by
 refine Cs.toV (?_:Cs Tryz.prog (GX X) 71 [xL (List.map z2l a0),xL (List.map z2l a1),.fn (.func 72) [] []] [] (z40 r) (zcj r)) (by kernel_rfl)
 refine fnT (cx:=cx X) Tryz.f71 Tryz.call71 Tryz.func71 (by kernel_rfl) ?_
 rw [z1s] at h
 refine adv (ok X) 5 [.i (a0.length:Int),.i (a1.length:Int)] (pA (lm z2l a0) (pA (lm z2l a1) pT)) (by kernel_rfl) ?_
 rcases iteE h with ⟨k1,h⟩|⟨k1,h⟩
 ·obtain rfl:=retE h
  exact fin (ok X) 4 [.b true] (pA k1 pT) (by kernel_rfl)
 ·refine adv (ok X) 5 [.b false,.i (a0.length:Int)] (pA k1 (pA (lm z2l a0) pT)) (by kernel_rfl) ?_
  refine lp (ok X) (z5p (z13 n) (z41 n) (z1s n) (z4p n) a0 a1) (fun (x1:Int)=>⟨32,0,[(1,[xL (List.map z2l a1)]),(2,[.fn (.func 72) [] []]),(15,[xL (List.map z2l a0)]),(16,[xI (a0.length:Int)]),(17,[xI x1])],[]⟩) (fun (j1:Unit)=>⟨32,0,[],[]⟩) zgw 0 (fun _=>⟨_,_,_,_,rfl⟩) h (by kernel_rfl) (fun x1 o h=>?_) (fun r' h=>?_) (fun j1 h=>?_)
  ·unfold z5p at h
   rcases iteE h with ⟨k2,h⟩|⟨k2,h⟩
   ·obtain ⟨v1,k3,h⟩:=z07 h
    obtain ⟨v2,k4,h⟩:=z07 h
    obtain ⟨v3,k5,h⟩:=z07 h
    refine adv (ok X) 13 [.b true,.e (z6x v1),.e (z6x v2),.c (z8l v3)] (pA k2 (pA (ixr zbe k3) (pA (ixr zbe k4) (pA (ih_ast_sameArm _ _ _ k5) pT)))) (by kernel_rfl) ?_
    rcases iteE h with ⟨k6,h⟩|⟨k6,h⟩
    ·obtain rfl:=retE h
     exact fin (ok X) 4 [.b true] (pA k6 pT) (by kernel_rfl)
    ·obtain rfl:=retE h
     exact fin (ok X) 4 [.b false] (pA k6 pT) (by kernel_rfl)
   ·obtain rfl:=retE h
    exact fin (ok X) 5 [.b false] (pA k2 pT) (by kernel_rfl)
  ·obtain rfl:=retE h
   kernel_rfl
  ·obtain rfl:=retE h
   exact fin (ok X) 3 [] pT (by kernel_rfl)
theorem zq0 {n:Nat} (ih_ast_Stmt__ast_sameStmt:∀ (a0:(List z05)) (a1:(List z05)) (r:Bool),z13 n a0 a1=some r→Cv Tryz.prog (GX X) 39 [xL (List.map z16 a0),xL (List.map z16 a1),.fn (.func 40) [] []] (z1n r)) (ih_ast_sameStmt:∀ (a0:z05) (a1:z05) (r:Bool),z41 n a0 a1=some r→Cv Tryz.prog (GX X) 40 [.agg (bs (z2p a0)),.agg (bs (z2p a1))] (z7p r)) (ih_ast_Arm__ast_sameArm:∀ (a0:(List z0y)) (a1:(List z0y)) (r:Bool),z1s n a0 a1=some r→Cv Tryz.prog (GX X) 71 [xL (List.map z2l a0),xL (List.map z2l a1),.fn (.func 72) [] []] (z40 r)) (ih_ast_sameArm:∀ (a0:z0y) (a1:z0y) (r:Bool),z4p n a0 a1=some r→Cv Tryz.prog (GX X) 72 [.agg (bs (z6x a0)),.agg (bs (z6x a1))] (z8l r)) (a0:z0y) (a1:z0y) (r:Bool) (h:z4p (n+1) a0 a1=some r):Cv Tryz.prog (GX X) 72 [.agg (bs (z6x a0)),.agg (bs (z6x a1))] (z8l r):=by
 refine Cs.toV (?_:Cs Tryz.prog (GX X) 72 [.agg (bs (z6x a0)),.agg (bs (z6x a1))] [] (z8l r) (zpz r)) (by kernel_rfl)
 refine fnT (cx:=cx X) Tryz.f72 Tryz.call72 Tryz.func72 (by kernel_rfl) ?_
 rw [z4p] at h
 rcases iteE h with ⟨k1,h⟩|⟨k1,h⟩
 ·rcases iteE h with ⟨k2,h⟩|⟨k2,h⟩
  ·obtain ⟨v1,k3,h⟩:=z07 h
   obtain rfl:=retE h
   exact fin (ok X) 5 (bT 11 [.c (z1n v1),.b true]) (pR 6 k1 (pR 5 k2 (pA (ih_ast_Stmt__ast_sameStmt _ _ _ k3) (pA k2 pT)))) (by kernel_rfl)
  ·obtain rfl:=retE h
   exact fin (ok X) 5 (bT 6 (bF 6 [])) (pR 6 k1 (pR 6 k2 pT)) (by kernel_rfl)
 ·obtain rfl:=retE h
  exact fin (ok X) 5 (bF 12 []) (pR 6 k1 (pR 6 ff pT)) (by kernel_rfl)
theorem zah:∀ n:Nat,(∀ (a0:(List z05)) (a1:(List z05)) (r:Bool),z13 n a0 a1=some r→Cv Tryz.prog (GX X) 39 [xL (List.map z16 a0),xL (List.map z16 a1),.fn (.func 40) [] []] (z1n r))∧(∀ (a0:z05) (a1:z05) (r:Bool),z41 n a0 a1=some r→Cv Tryz.prog (GX X) 40 [.agg (bs (z2p a0)),.agg (bs (z2p a1))] (z7p r))∧(∀ (a0:(List z0y)) (a1:(List z0y)) (r:Bool),z1s n a0 a1=some r→Cv Tryz.prog (GX X) 71 [xL (List.map z2l a0),xL (List.map z2l a1),.fn (.func 72) [] []] (z40 r))∧(∀ (a0:z0y) (a1:z0y) (r:Bool),z4p n a0 a1=some r→Cv Tryz.prog (GX X) 72 [.agg (bs (z6x a0)),.agg (bs (z6x a1))] (z8l r))
 | 0=>⟨(fun _ _ _ h=>by rw [z13] at h;cases h),(fun _ _ _ h=>by rw [z41] at h;cases h),(fun _ _ _ h=>by rw [z1s] at h;cases h),(fun _ _ _ h=>by rw [z4p] at h;cases h)⟩
 | n+1=>by
  have ih:=zah n
  exact ⟨zfu ih.1 ih.2.1 ih.2.2.1 ih.2.2.2,zol ih.1 ih.2.1 ih.2.2.1 ih.2.2.2,zh1 ih.1 ih.2.1 ih.2.2.1 ih.2.2.2,zq0 ih.1 ih.2.1 ih.2.2.1 ih.2.2.2⟩
theorem zfv {a0:(List z05)} {a1:(List z05)} {r:Bool} (h:z9l a0 a1=some r):Cv Tryz.prog (GX X) 39 [xL (List.map z16 a0),xL (List.map z16 a1),.fn (.func 40) [] []] (z1n r):=by
 obtain ⟨n,hn⟩:=unfE h
 exact (zah n).1 _ _ _ hn
theorem zs9 {a0:z3h} {a1:z3h} {r:Bool} (h:zib a0 a1=some r):Cv Tryz.prog (GX X) 37 [.agg (bs (z0x a0)),.agg (bs (z0x a1))] (zhh r):=by
 refine Cs.toV (?_:Cs Tryz.prog (GX X) 37 [.agg (bs (z0x a0)),.agg (bs (z0x a1))] [] (zhh r) (zs3 r)) (by kernel_rfl)
 refine fnT (cx:=cx X) Tryz.f37 Tryz.call37 Tryz.func37 (by kernel_rfl) ?_
 unfold zib at h
 rcases iteE h with ⟨k1,h⟩|⟨k1,h⟩
 ·obtain ⟨v1,k2,h⟩:=z07 h
  rcases iteE h with ⟨k3,h⟩|⟨k3,h⟩
  ·obtain ⟨v2,k4,h⟩:=z07 h
   obtain rfl:=retE h
   exact fin (ok X) 5 (bT 5 (.c (z44 v1)::bT 6 [.c (z1n v2),.b true])) (pR 5 k1 (pA (z7e (X:=X) k2) (pA k1 (pR 5 k3 (pA (zfv (X:=X) k4) (pA k3 pT)))))) (by kernel_rfl)
  ·obtain rfl:=retE h
   exact fin (ok X) 5 (bT 5 (.c (z44 v1)::.b true::bF 6 [])) (pR 5 k1 (pA (z7e (X:=X) k2) (pA k1 (pR 6 k3 pT)))) (by kernel_rfl)
 ·obtain rfl:=retE h
  exact fin (ok X) 5 (bF 12 []) (pR 6 k1 (pR 6 ff pT)) (by kernel_rfl)
theorem zh2 {a0:(List z3h)} {a1:(List z3h)} {r:Bool} (h:z7j a0 a1=some r):Cv Tryz.prog (GX X) 36 [xL (List.map z0x a0),xL (List.map z0x a1),.fn (.func 37) [] []] (z87 r):=by
 refine Cs.toV (?_:Cs Tryz.prog (GX X) 36 [xL (List.map z0x a0),xL (List.map z0x a1),.fn (.func 37) [] []] [] (z87 r) (zck r)) (by kernel_rfl)
 refine fnT (cx:=cx X) Tryz.f36 Tryz.call36 Tryz.func36 (by kernel_rfl) ?_
 unfold z7j at h
 refine adv (ok X) 5 [.i (a0.length:Int),.i (a1.length:Int)] (pA (lm z0x a0) (pA (lm z0x a1) pT)) (by kernel_rfl) ?_
 rcases iteE h with ⟨k1,h⟩|⟨k1,h⟩
 ·obtain rfl:=retE h
  exact fin (ok X) 4 [.b true] (pA k1 pT) (by kernel_rfl)
 ·refine adv (ok X) 5 [.b false,.i (a0.length:Int)] (pA k1 (pA (lm z0x a0) pT)) (by kernel_rfl) ?_
  refine lp (ok X) (z5q a0 a1) (fun (x1:Int)=>⟨32,0,[(1,[xL (List.map z0x a1)]),(2,[.fn (.func 37) [] []]),(15,[xL (List.map z0x a0)]),(16,[xI (a0.length:Int)]),(17,[xI x1])],[]⟩) (fun (j1:Unit)=>⟨32,0,[],[]⟩) zgx 0 (fun _=>⟨_,_,_,_,rfl⟩) h (by kernel_rfl) (fun x1 o h=>?_) (fun r' h=>?_) (fun j1 h=>?_)
  ·unfold z5q at h
   rcases iteE h with ⟨k2,h⟩|⟨k2,h⟩
   ·obtain ⟨v1,k3,h⟩:=z07 h
    obtain ⟨v2,k4,h⟩:=z07 h
    obtain ⟨v3,k5,h⟩:=z07 h
    refine adv (ok X) 13 [.b true,.e (z0x v1),.e (z0x v2),.c (zhh v3)] (pA k2 (pA (ixm z0x k3) (pA (ixm z0x k4) (pA (zs9 (X:=X) k5) pT)))) (by kernel_rfl) ?_
    rcases iteE h with ⟨k6,h⟩|⟨k6,h⟩
    ·obtain rfl:=retE h
     exact fin (ok X) 4 [.b true] (pA k6 pT) (by kernel_rfl)
    ·obtain rfl:=retE h
     exact fin (ok X) 4 [.b false] (pA k6 pT) (by kernel_rfl)
   ·obtain rfl:=retE h
    exact fin (ok X) 5 [.b false] (pA k2 pT) (by kernel_rfl)
  ·obtain rfl:=retE h
   kernel_rfl
  ·obtain rfl:=retE h
   exact fin (ok X) 3 [] pT (by kernel_rfl)
theorem zom {a0:z39} {a1:z39} {r:Bool} (h:zf6 a0 a1=some r):Cv Tryz.prog (GX X) 42 [.agg (bs (z2o a0)),.agg (bs (z2o a1))] (zfc r):=by
 refine Cs.toV (?_:Cs Tryz.prog (GX X) 42 [.agg (bs (z2o a0)),.agg (bs (z2o a1))] [] (zfc r) (zob r)) (by kernel_rfl)
 refine fnT (cx:=cx X) Tryz.f42 Tryz.call42 Tryz.func42 (by kernel_rfl) ?_
 unfold zf6 at h
 refine adv (ok X) 3 [] pT (by kernel_rfl) ?_
 refine jn (ok X) 1 (fun (j1:Bool)=>⟨45,0,[(4,[xB j1])],[]⟩) h (fun j1 h=>?_) (fun j1 h=>?_)
 ·rcases iteE h with ⟨k1,h⟩|⟨k1,h⟩
  ·rcases iteE h with ⟨k2,h⟩|⟨k2,h⟩
   ·rcases iteE h with ⟨k3,h⟩|⟨k3,h⟩
    ·rcases iteE h with ⟨k4,h⟩|⟨k4,h⟩
     ·rcases iteE h with ⟨k5,h⟩|⟨k5,h⟩
      ·obtain ⟨v1,k6,h⟩:=z07 h
       obtain rfl:=retE h
       exact fin (ok X) 1 (bT 29 [.c (z44 v1),.b true]) (pR 6 k1 (pR 6 k2 (pR 6 k3 (pR 6 k4 (pR 5 k5 (pA (z7e (X:=X) k6) (pA k5 pT))))))) (by kernel_rfl)
      ·obtain rfl:=retE h
       exact fin (ok X) 1 (bT 24 (bF 6 [])) (pR 6 k1 (pR 6 k2 (pR 6 k3 (pR 6 k4 (pR 6 k5 pT))))) (by kernel_rfl)
     ·obtain rfl:=retE h
      exact fin (ok X) 1 (bT 18 (bF 12 [])) (pR 6 k1 (pR 6 k2 (pR 6 k3 (pR 6 k4 (pR 6 ff pT))))) (by kernel_rfl)
    ·obtain rfl:=retE h
     exact fin (ok X) 1 (bT 12 (bF 18 [])) (pR 6 k1 (pR 6 k2 (pR 6 k3 (pR 12 ff pT)))) (by kernel_rfl)
   ·obtain rfl:=retE h
    exact fin (ok X) 1 (bT 6 (bF 24 [])) (pR 6 k1 (pR 6 k2 (pR 18 ff pT))) (by kernel_rfl)
  ·obtain rfl:=retE h
   exact fin (ok X) 1 (bF 30 []) (pR 6 k1 (pR 24 ff pT)) (by kernel_rfl)
 ·obtain rfl:=retE h
  exact fin (ok X) 1 [] pT (by kernel_rfl)
theorem zfw {a0:(List z39)} {a1:(List z39)} {r:Bool} (h:z6n a0 a1=some r):Cv Tryz.prog (GX X) 41 [xL (List.map z2o a0),xL (List.map z2o a1),.fn (.func 42) [] []] (z7b r):=by
 refine Cs.toV (?_:Cs Tryz.prog (GX X) 41 [xL (List.map z2o a0),xL (List.map z2o a1),.fn (.func 42) [] []] [] (z7b r) (zc4 r)) (by kernel_rfl)
 refine fnT (cx:=cx X) Tryz.f41 Tryz.call41 Tryz.func41 (by kernel_rfl) ?_
 unfold z6n at h
 refine adv (ok X) 5 [.i (a0.length:Int),.i (a1.length:Int)] (pA (lm z2o a0) (pA (lm z2o a1) pT)) (by kernel_rfl) ?_
 rcases iteE h with ⟨k1,h⟩|⟨k1,h⟩
 ·obtain rfl:=retE h
  exact fin (ok X) 4 [.b true] (pA k1 pT) (by kernel_rfl)
 ·refine adv (ok X) 5 [.b false,.i (a0.length:Int)] (pA k1 (pA (lm z2o a0) pT)) (by kernel_rfl) ?_
  refine lp (ok X) (z52 a0 a1) (fun (x1:Int)=>⟨32,0,[(1,[xL (List.map z2o a1)]),(2,[.fn (.func 42) [] []]),(15,[xL (List.map z2o a0)]),(16,[xI (a0.length:Int)]),(17,[xI x1])],[]⟩) (fun (j1:Unit)=>⟨32,0,[],[]⟩) zfp 0 (fun _=>⟨_,_,_,_,rfl⟩) h (by kernel_rfl) (fun x1 o h=>?_) (fun r' h=>?_) (fun j1 h=>?_)
  ·unfold z52 at h
   rcases iteE h with ⟨k2,h⟩|⟨k2,h⟩
   ·obtain ⟨v1,k3,h⟩:=z07 h
    obtain ⟨v2,k4,h⟩:=z07 h
    obtain ⟨v3,k5,h⟩:=z07 h
    refine adv (ok X) 13 [.b true,.e (z2o v1),.e (z2o v2),.c (zfc v3)] (pA k2 (pA (ixm z2o k3) (pA (ixm z2o k4) (pA (zom (X:=X) k5) pT)))) (by kernel_rfl) ?_
    rcases iteE h with ⟨k6,h⟩|⟨k6,h⟩
    ·obtain rfl:=retE h
     exact fin (ok X) 4 [.b true] (pA k6 pT) (by kernel_rfl)
    ·obtain rfl:=retE h
     exact fin (ok X) 4 [.b false] (pA k6 pT) (by kernel_rfl)
   ·obtain rfl:=retE h
    exact fin (ok X) 5 [.b false] (pA k2 pT) (by kernel_rfl)
  ·obtain rfl:=retE h
   kernel_rfl
  ·obtain rfl:=retE h
   exact fin (ok X) 3 [] pT (by kernel_rfl)
theorem zp7 {a0:z23} {a1:z23} {r:Bool} (h:zkf a0 a1=some r):Cv Tryz.prog (GX X) 12 [.agg (bs (z9r a0)),.agg (bs (z9r a1))] (zic r):=by
 refine Cs.toV (?_:Cs Tryz.prog (GX X) 12 [.agg (bs (z9r a0)),.agg (bs (z9r a1))] [] (zic r) (zxx r)) (by kernel_rfl)
 refine fnT (cx:=cx X) Tryz.f12 Tryz.call12 Tryz.func12 (by kernel_rfl) ?_
 unfold zkf at h
 obtain ⟨v1,k1,h⟩:=z07 h
 obtain ⟨v2,k2,h⟩:=z07 h
 refine adv (ok X) 7 [.c (z86 v1),.c (z87 v2)] (pA (zh0 (X:=X) k1) (pA (zh2 (X:=X) k2) pT)) (by kernel_rfl) ?_
 rcases iteE h with ⟨k3,h⟩|⟨k3,h⟩
 ·rcases iteE h with ⟨k4,h⟩|⟨k4,h⟩
  ·obtain ⟨v3,k5,h⟩:=z07 h
   obtain rfl:=retE h
   exact fin (ok X) 2 (bT 7 [.c (z7b v3),.b true]) (pA k3 (pA k3 (pR 5 k4 (pA (zfw (X:=X) k5) (pA k4 pT))))) (by kernel_rfl)
  ·obtain rfl:=retE h
   exact fin (ok X) 2 (.b true::.b true::bF 6 []) (pA k3 (pA k3 (pR 6 k4 pT))) (by kernel_rfl)
 ·obtain rfl:=retE h
  exact fin (ok X) 2 (bF 8 []) (pA k3 (pA k3 (pR 6 ff pT))) (by kernel_rfl)
theorem zeu {a0:(List ByteArray)} {a1:(List ByteArray)} {r:Bool} (h:zae a0 a1=some r):Cv Tryz.prog (GX X) 48 [xL (List.map z1g a0),xL (List.map z1g a1)] (z8x r):=by
 refine Cs.toV (?_:Cs Tryz.prog (GX X) 48 [xL (List.map z1g a0),xL (List.map z1g a1)] [] (z8x r) (zhi r)) (by kernel_rfl)
 refine fnT (cx:=cx X) Tryz.f48 Tryz.call48 Tryz.func48 (by kernel_rfl) ?_
 unfold zae at h
 refine adv (ok X) 5 [.i (a0.length:Int),.i (a1.length:Int)] (pA (lm z1g a0) (pA (lm z1g a1) pT)) (by kernel_rfl) ?_
 rcases iteE h with ⟨k1,h⟩|⟨k1,h⟩
 ·obtain rfl:=retE h
  exact fin (ok X) 4 [.b true] (pA k1 pT) (by kernel_rfl)
 ·refine adv (ok X) 5 [.b false] (pA k1 pT) (by kernel_rfl) ?_
  refine lp (ok X) (zaw a0 a1) (fun (x1:Int)=>⟨26,0,[(0,[xL (List.map z1g a0)]),(1,[xL (List.map z1g a1)]),(5,[xI x1])],[]⟩) (fun (j1:Unit)=>⟨26,0,[],[]⟩) znf 0 (fun _=>⟨_,_,_,_,rfl⟩) h (by kernel_rfl) (fun x1 o h=>?_) (fun r' h=>?_) (fun j1 h=>?_)
  ·unfold zaw at h
   refine adv (ok X) 3 [.i (a0.length:Int)] (pA (lm z1g a0) pT) (by kernel_rfl) ?_
   rcases iteE h with ⟨k2,h⟩|⟨k2,h⟩
   ·obtain ⟨v1,k3,h⟩:=z07 h
    obtain ⟨v2,k4,h⟩:=z07 h
    refine adv (ok X) 6 [.b true,.o [0,1,2,3,4,5,6,7,8],.e [.str v1],.e [.str v2]] (pA k2 (pA (ixm z1g k3) (pA (ixm z1g k4) pT))) (by kernel_rfl) ?_
    rcases iteE h with ⟨k5,h⟩|⟨k5,h⟩
    ·obtain rfl:=retE h
     exact fin (ok X) 4 [.b true] (pA k5 pT) (by kernel_rfl)
    ·obtain rfl:=retE h
     exact fin (ok X) 4 [.b false] (pA k5 pT) (by kernel_rfl)
   ·obtain rfl:=retE h
    exact fin (ok X) 2 [.b false] (pA k2 pT) (by kernel_rfl)
  ·obtain rfl:=retE h
   kernel_rfl
  ·obtain rfl:=retE h
   exact fin (ok X) 3 [] pT (by kernel_rfl)
theorem zon {n:Nat} (ih_r02_sameExpr:∀ (a0:z04) (a1:z04) (r:Bool),z60 n a0 a1=some r→Cv Tryz.prog (GX X) 82 [.agg (bs (z0f a0)),.agg (bs (z0f a1))] (z5h r)) (a0:z04) (a1:z04) (r:Bool) (h:z60 (n+1) a0 a1=some r):Cv Tryz.prog (GX X) 82 [.agg (bs (z0f a0)),.agg (bs (z0f a1))] (z5h r):=by
 refine Cs.toV (?_:Cs Tryz.prog (GX X) 82 [.agg (bs (z0f a0)),.agg (bs (z0f a1))] [] (z5h r) (zit r)) (by kernel_rfl)
 refine fnT (cx:=cx X) Tryz.f82 Tryz.call82 Tryz.func82 (by kernel_rfl) ?_
 rw [z60] at h
 refine adv (ok X) 4 [] pT (by kernel_rfl) ?_
 refine jn (ok X) 1 (fun (j1:Bool)=>⟨63,0,[(2,[xP 0 0]),(3,[xP 1 0]),(43,[xB j1])],[oB 43 (bs (z0f a0)),oB 43 (bs (z0f a1))]⟩) h (fun j1 h=>?_) (fun j1 h=>?_)
 ·rcases iteE h with ⟨k1,h⟩|⟨k1,h⟩
  ·obtain rfl:=retE h
   exact fin (ok X) 1 (bT 20 []) (pR 6 k1 (pR 14 tt pT)) (by kernel_rfl)
  ·rcases iteE h with ⟨k2,h⟩|⟨k2,h⟩
   ·rcases iteE h with ⟨k3,h⟩|⟨k3,h⟩
    ·obtain rfl:=retE h
     exact fin (ok X) 1 (bF 4 (bT 5 (.b false::.b true::.b false::bT 14 []))) (pR 4 k1 (pR 5 k2 (pA k1 (pA k2 (pA k1 (pR 6 k3 (pR 8 tt pT))))))) (by kernel_rfl)
    ·rcases iteE h with ⟨k4,h⟩|⟨k4,h⟩
     ·rcases iteE h with ⟨k5,h⟩|⟨k5,h⟩
      ·obtain rfl:=retE h
       exact fin (ok X) 1 (bF 4 (bT 5 (.b false::.b true::bF 5 (bT 5 (.b false::.b true::.b false::bT 8 []))))) (pR 4 k1 (pR 5 k2 (pA k1 (pA k2 (pA k1 (pR 4 k3 (pR 5 k4 (pA k3 (pA k4 (pA k3 (pR 8 k5 pT))))))))))) (by kernel_rfl)
      ·obtain rfl:=retE h
       exact fin (ok X) 1 (bF 4 (bT 5 (.b false::.b true::bF 5 (bT 5 (.b false::.b true::bF 4 (.i (a0.Kids.length:Int)::bF 3 [.i (a1.Kids.length:Int),.b false,.b false])))))) (pR 4 k1 (pR 5 k2 (pA k1 (pA k2 (pA k1 (pR 4 k3 (pR 5 k4 (pA k3 (pA k4 (pA k3 (pR 3 k5 (pA (lm z1l a0.Kids) (pR 3 k5 (pA (lm z1l a1.Kids) (pA k5 (pA k5 pT)))))))))))))))) (by kernel_rfl)
     ·obtain rfl:=retE h
      exact fin (ok X) 1 (bF 4 (bT 5 (.b false::.b true::bF 16 (.i (a0.Kids.length:Int)::bF 3 [.i (a1.Kids.length:Int),.b false,.b false])))) (pR 4 k1 (pR 5 k2 (pA k1 (pA k2 (pA k1 (pR 4 k3 (pR 5 k4 (pA k3 (pA k4 (pA k3 (pR 3 ff (pA (lm z1l a0.Kids) (pR 3 ff (pA (lm z1l a1.Kids) (pA ff (pA ff pT)))))))))))))))) (by kernel_rfl)
   ·rcases iteE h with ⟨k6,h⟩|⟨k6,h⟩
    ·rcases iteE h with ⟨k7,h⟩|⟨k7,h⟩
     ·obtain rfl:=retE h
      exact fin (ok X) 1 (bF 16 (bT 5 (.b false::.b true::.b false::bT 8 []))) (pR 4 k1 (pR 5 k2 (pA k1 (pA k2 (pA k1 (pR 4 ff (pR 5 k6 (pA ff (pA k6 (pA ff (pR 8 k7 pT))))))))))) (by kernel_rfl)
     ·obtain rfl:=retE h
      exact fin (ok X) 1 (bF 16 (bT 5 (.b false::.b true::bF 4 (.i (a0.Kids.length:Int)::bF 3 [.i (a1.Kids.length:Int),.b false,.b false])))) (pR 4 k1 (pR 5 k2 (pA k1 (pA k2 (pA k1 (pR 4 ff (pR 5 k6 (pA ff (pA k6 (pA ff (pR 3 k7 (pA (lm z1l a0.Kids) (pR 3 k7 (pA (lm z1l a1.Kids) (pA k7 (pA k7 pT)))))))))))))))) (by kernel_rfl)
    ·obtain rfl:=retE h
     exact fin (ok X) 1 (bF 27 (.i (a0.Kids.length:Int)::bF 3 [.i (a1.Kids.length:Int),.b false,.b false])) (pR 4 k1 (pR 5 k2 (pA k1 (pA k2 (pA k1 (pR 4 ff (pR 5 k6 (pA ff (pA k6 (pR 4 ff (pA (lm z1l a0.Kids) (pR 3 ff (pA (lm z1l a1.Kids) (pA ff (pA ff pT))))))))))))))) (by kernel_rfl)
 ·rcases iteE h with ⟨k8,h⟩|⟨k8,h⟩
  ·obtain rfl:=retE h
   exact fin (ok X) 4 [.b true] (pA k8 pT) (by kernel_rfl)
  ·refine adv (ok X) 5 [.b false] (pA k8 pT) (by kernel_rfl) ?_
   refine lp (ok X) (z8y (z60 n) a0 a1) (fun (x2:Int)=>⟨63,0,[(2,[xP 0 0]),(3,[xP 1 0]),(5,[xI x2])],[oB 43 (bs (z0f a0)),oB 43 (bs (z0f a1))]⟩) (fun (j2:Unit)=>⟨63,0,[],[]⟩) zoc 0 (fun _=>⟨_,_,_,_,rfl⟩) h (by kernel_rfl) (fun x2 o h=>?_) (fun r' h=>?_) (fun j2 h=>?_)
   ·unfold z8y at h
    refine adv (ok X) 3 [.i (a0.Kids.length:Int)] (pA (lm z1l a0.Kids) pT) (by kernel_rfl) ?_
    rcases iteE h with ⟨k9,h⟩|⟨k9,h⟩
    ·obtain ⟨v1,k10,h⟩:=z07 h
     obtain ⟨v2,k11,h⟩:=z07 h
     obtain ⟨v3,k12,h⟩:=z07 h
     refine adv (ok X) 6 [.b true,.o [0,1,2,3,4,5,6,7,8,9,10,11],.e (z0f v1),.e (z0f v2),.c (z5h v3)] (pA k9 (pA (ixr z26 k10) (pA (ixr z26 k11) (pA (ih_r02_sameExpr _ _ _ k12) pT)))) (by kernel_rfl) ?_
     rcases iteE h with ⟨k13,h⟩|⟨k13,h⟩
     ·obtain rfl:=retE h
      exact fin (ok X) 4 [.b true] (pA k13 pT) (by kernel_rfl)
     ·obtain rfl:=retE h
      exact fin (ok X) 4 [.b false] (pA k13 pT) (by kernel_rfl)
    ·obtain rfl:=retE h
     exact fin (ok X) 2 [.b false] (pA k9 pT) (by kernel_rfl)
   ·obtain rfl:=retE h
    kernel_rfl
   ·obtain rfl:=retE h
    exact fin (ok X) 3 [] pT (by kernel_rfl)
theorem zgr:∀ n:Nat,(∀ (a0:z04) (a1:z04) (r:Bool),z60 n a0 a1=some r→Cv Tryz.prog (GX X) 82 [.agg (bs (z0f a0)),.agg (bs (z0f a1))] (z5h r))
 | 0=>(fun _ _ _ h=>by rw [z60] at h;cases h)
 | n+1=>by
  have ih:=zgr n
  exact zon ih
theorem zat {a0:z04} {a1:z04} {r:Bool} (h:zc5 a0 a1=some r):Cv Tryz.prog (GX X) 82 [.agg (bs (z0f a0)),.agg (bs (z0f a1))] (z5h r):=by
 obtain ⟨n,hn⟩:=unfE h
 exact (zgr n) _ _ _ hn
theorem z9h {a0:z1k} {a1:z1k} {r:Bool} (h:zdf a0 a1=some r):Cv Tryz.prog (GX X) 83 [.agg (bs (z73 a0)),.agg (bs (z73 a1))] (z7q r):=by
 refine Cs.toV (?_:Cs Tryz.prog (GX X) 83 [.agg (bs (z73 a0)),.agg (bs (z73 a1))] [] (z7q r) (zod r)) (by kernel_rfl)
 refine fnT (cx:=cx X) Tryz.f83 Tryz.call83 Tryz.func83 (by kernel_rfl) ?_
 unfold zdf at h
 rcases iteE h with ⟨k1,h⟩|⟨k1,h⟩
 ·obtain ⟨v1,k2,h⟩:=z07 h
  rcases iteE h with ⟨k3,h⟩|⟨k3,h⟩
  ·obtain ⟨v2,k4,h⟩:=z07 h
   obtain rfl:=retE h
   exact fin (ok X) 5 (bT 5 (.c (z5h v1)::bT 6 [.c (z5h v2),.b true])) (pR 5 k1 (pA (zat (X:=X) k2) (pA k1 (pR 5 k3 (pA (zat (X:=X) k4) (pA k3 pT)))))) (by kernel_rfl)
  ·obtain rfl:=retE h
   exact fin (ok X) 5 (bT 5 (.c (z5h v1)::.b true::bF 6 [])) (pR 5 k1 (pA (zat (X:=X) k2) (pA k1 (pR 6 k3 pT)))) (by kernel_rfl)
 ·obtain rfl:=retE h
  exact fin (ok X) 5 (bF 12 []) (pR 6 k1 (pR 6 ff pT)) (by kernel_rfl)
theorem znl {n:Nat} (ih_r02_sameStmts:∀ (a0:(List z03)) (a1:(List z03)) (r:Bool),z5i n a0 a1=some r→Cv Tryz.prog (GX X) 49 [xL (List.map z09 a0),xL (List.map z09 a1)] (z4y r)) (a0:(List z03)) (a1:(List z03)) (r:Bool) (h:z5i (n+1) a0 a1=some r):Cv Tryz.prog (GX X) 49 [xL (List.map z09 a0),xL (List.map z09 a1)] (z4y r):=by
 refine Cs.toV (?_:Cs Tryz.prog (GX X) 49 [xL (List.map z09 a0),xL (List.map z09 a1)] [] (z4y r) (zhj r)) (by kernel_rfl)
 refine fnT (cx:=cx X) Tryz.f49 Tryz.call49 Tryz.func49 (by kernel_rfl) ?_
 rw [z5i] at h
 refine adv (ok X) 5 [.i (a0.length:Int),.i (a1.length:Int)] (pA (lm z09 a0) (pA (lm z09 a1) pT)) (by kernel_rfl) ?_
 rcases iteE h with ⟨k1,h⟩|⟨k1,h⟩
 ·obtain rfl:=retE h
  exact fin (ok X) 4 [.b true] (pA k1 pT) (by kernel_rfl)
 ·refine adv (ok X) 5 [.b false] (pA k1 pT) (by kernel_rfl) ?_
  refine lp (ok X) (z7d (z5i n) a0 a1) (fun (x1:Int)=>⟨191,0,[(0,[xL (List.map z09 a0)]),(1,[xL (List.map z09 a1)]),(5,[xI x1])],[]⟩) (fun (j1:Unit)=>⟨191,0,[],[]⟩) zen 0 (fun _=>⟨_,_,_,_,rfl⟩) h (by kernel_rfl) (fun x1 o h=>?_) (fun r' h=>?_) (fun j1 h=>?_)
  ·unfold z7d at h
   refine adv (ok X) 3 [.i (a0.length:Int)] (pA (lm z09 a0) pT) (by kernel_rfl) ?_
   rcases iteE h with ⟨k2,h⟩|⟨k2,h⟩
   ·refine adv (ok X) 3 [.b true] (pA k2 pT) (by kernel_rfl) ?_
    refine jr (ok X) 1 (fun (j2:Unit)=>⟨191,0,[(0,[xL (List.map z09 a0)]),(1,[xL (List.map z09 a1)]),(5,[xI x1])],[]⟩) zen (fun _=>⟨_,_,_,_,rfl⟩) h (fun o h=>?_) (fun r' h=>?_) (fun j2 h=>?_)
    ·obtain ⟨v1,k3,h⟩:=z07 h
     obtain ⟨v2,k4,h⟩:=z07 h
     refine adv (ok X) 6 [.o [0,1,2,3,4,5,6,7,8,9,10,11],.e (z56 v1),.e (z56 v2)] (pA (ixr z7l k3) (pA (ixr z7l k4) pT)) (by kernel_rfl) ?_
     rcases iteE h with ⟨k5,h⟩|⟨k5,h⟩
     ·obtain rfl:=retE h
      exact fin (ok X) 4 [.b true] (pA k5 pT) (by kernel_rfl)
     ·refine adv (ok X) 10 [.b false] (pA k5 pT) (by kernel_rfl) ?_
      rcases iteE h with ⟨k6,h⟩|⟨k6,h⟩
      ·refine adv (ok X) 1 [.b true] (pA k6 pT) (by kernel_rfl) ?_
       rcases iteE h with ⟨k7,h⟩|⟨k7,h⟩
       ·obtain ⟨v3,k8,h⟩:=z07 h
        refine adv (ok X) 4 (bT 5 [.c (z5h v3),.b true]) (pR 5 k7 (pA (zat (X:=X) k8) (pA k7 pT))) (by kernel_rfl) ?_
        rcases iteE h with ⟨k9,h⟩|⟨k9,h⟩
        ·obtain rfl:=retE h
         exact fin (ok X) 4 [.b true] (pA k9 pT) (by kernel_rfl)
        ·obtain rfl:=retE h
         exact fin (ok X) 3 [.b false] (pA k9 pT) (by kernel_rfl)
       ·obtain rfl:=retE h
        exact fin (ok X) 8 (bF 6 [.b true]) (pR 6 k7 (pA (notF ff) pT)) (by kernel_rfl)
      ·refine adv (ok X) 3 [.b false] (pA k6 pT) (by kernel_rfl) ?_
       rcases iteE h with ⟨k10,h⟩|⟨k10,h⟩
       ·refine adv (ok X) 1 [.b true] (pA k10 pT) (by kernel_rfl) ?_
        obtain ⟨v4,k11,h⟩:=z07 h
        rcases iteE h with ⟨k12,h⟩|⟨k12,h⟩
        ·obtain ⟨v5,k13,h⟩:=z07 h
         rcases iteE h with ⟨k14,h⟩|⟨k14,h⟩
         ·obtain ⟨v6,k15,h⟩:=z07 h
          refine adv (ok X) 4 (.c (z7q v4)::bT 5 (.c (z4y v5)::bT 6 [.c (z4y v6),.b true])) (pA (z9h (X:=X) k11) (pR 5 k12 (pA (ih_r02_sameStmts _ _ _ k13) (pA k12 (pR 5 k14 (pA (ih_r02_sameStmts _ _ _ k15) (pA k14 pT))))))) (by kernel_rfl) ?_
          rcases iteE h with ⟨k16,h⟩|⟨k16,h⟩
          ·obtain rfl:=retE h
           exact fin (ok X) 4 [.b true] (pA k16 pT) (by kernel_rfl)
          ·obtain rfl:=retE h
           exact fin (ok X) 3 [.b false] (pA k16 pT) (by kernel_rfl)
         ·obtain rfl:=retE h
          exact fin (ok X) 8 (.c (z7q v4)::bT 5 (.c (z4y v5)::.b true::bF 6 [.b true])) (pA (z9h (X:=X) k11) (pR 5 k12 (pA (ih_r02_sameStmts _ _ _ k13) (pA k12 (pR 6 k14 (pA (notF ff) pT)))))) (by kernel_rfl)
        ·obtain rfl:=retE h
         exact fin (ok X) 8 (.c (z7q v4)::bF 12 [.b true]) (pA (z9h (X:=X) k11) (pR 6 k12 (pR 6 ff (pA (notF ff) pT)))) (by kernel_rfl)
       ·refine adv (ok X) 3 [.b false] (pA k10 pT) (by kernel_rfl) ?_
        rcases iteE h with ⟨k17,h⟩|⟨k17,h⟩
        ·refine adv (ok X) 1 [.b true] (pA k17 pT) (by kernel_rfl) ?_
         obtain ⟨v7,k18,h⟩:=z07 h
         rcases iteE h with ⟨k19,h⟩|⟨k19,h⟩
         ·obtain ⟨v8,k20,h⟩:=z07 h
          refine adv (ok X) 4 (.c (z7q v7)::bT 5 [.c (z4y v8),.b true]) (pA (z9h (X:=X) k18) (pR 5 k19 (pA (ih_r02_sameStmts _ _ _ k20) (pA k19 pT)))) (by kernel_rfl) ?_
          rcases iteE h with ⟨k21,h⟩|⟨k21,h⟩
          ·obtain rfl:=retE h
           exact fin (ok X) 4 [.b true] (pA k21 pT) (by kernel_rfl)
          ·obtain rfl:=retE h
           exact fin (ok X) 3 [.b false] (pA k21 pT) (by kernel_rfl)
         ·obtain rfl:=retE h
          exact fin (ok X) 8 (.c (z7q v7)::bF 6 [.b true]) (pA (z9h (X:=X) k18) (pR 6 k19 (pA (notF ff) pT))) (by kernel_rfl)
        ·refine adv (ok X) 3 [.b false] (pA k17 pT) (by kernel_rfl) ?_
         rcases iteE h with ⟨k22,h⟩|⟨k22,h⟩
         ·refine adv (ok X) 1 [.b true] (pA k22 pT) (by kernel_rfl) ?_
          rcases iteE h with ⟨k23,h⟩|⟨k23,h⟩
          ·rcases iteE h with ⟨k24,h⟩|⟨k24,h⟩
           ·obtain ⟨v9,k25,h⟩:=z07 h
            refine adv (ok X) 4 (bT 11 [.c (z5h v9),.b true]) (pR 6 k23 (pR 5 k24 (pA (zat (X:=X) k25) (pA k24 pT)))) (by kernel_rfl) ?_
            rcases iteE h with ⟨k26,h⟩|⟨k26,h⟩
            ·obtain rfl:=retE h
             exact fin (ok X) 4 [.b true] (pA k26 pT) (by kernel_rfl)
            ·obtain rfl:=retE h
             exact fin (ok X) 3 [.b false] (pA k26 pT) (by kernel_rfl)
           ·obtain rfl:=retE h
            exact fin (ok X) 8 (bT 6 (bF 6 [.b true])) (pR 6 k23 (pR 6 k24 (pA (notF ff) pT))) (by kernel_rfl)
          ·obtain rfl:=retE h
           exact fin (ok X) 8 (bF 12 [.b true]) (pR 6 k23 (pR 6 ff (pA (notF ff) pT))) (by kernel_rfl)
         ·refine adv (ok X) 3 [.b false] (pA k22 pT) (by kernel_rfl) ?_
          rcases iteE h with ⟨k27,h⟩|⟨k27,h⟩
          ·refine adv (ok X) 2 [.b true] (pA k27 pT) (by kernel_rfl) ?_
           refine jn (ok X) 1 (fun (j3:Bool)=>⟨191,0,[(0,[xL (List.map z09 a0)]),(1,[xL (List.map z09 a1)]),(5,[xI x1]),(6,[xP 0 0]),(7,[xP 1 0]),(8,[xB j3])],[oB 50 (bs (z56 v1)),oB 50 (bs (z56 v2))]⟩) h (fun j3 h=>?_) (fun j3 h=>?_)
           ·rcases iteE h with ⟨k28,h⟩|⟨k28,h⟩
            ·obtain rfl:=retE h
             exact fin (ok X) 1 (bT 3 (.i (v1.Arms.length:Int)::bT 3 [.i (v2.Arms.length:Int),.b true,.b true])) (pR 3 k28 (pA (lm z4o v1.Arms) (pR 3 k28 (pA (lm z4o v2.Arms) (pA k28 (pA k28 pT)))))) (by kernel_rfl)
            ·obtain rfl:=retE h
             exact fin (ok X) 1 (bF 8 []) (pR 8 k28 pT) (by kernel_rfl)
           ·refine adv (ok X) 2 [] pT (by kernel_rfl) ?_
            refine lp (ok X) (zdl (z5i n) v1 v2) (fun (x4:(Bool × Int))=>⟨191,0,[(0,[xL (List.map z09 a0)]),(1,[xL (List.map z09 a1)]),(5,[xI x1]),(6,[xP 0 0]),(7,[xP 1 0]),(8,[xB x4.1]),(9,[xI x4.2])],[oB 50 (bs (z56 v1)),oB 50 (bs (z56 v2))]⟩) (fun (j4:Bool)=>⟨191,0,[(0,[xL (List.map z09 a0)]),(1,[xL (List.map z09 a1)]),(5,[xI x1]),(8,[xB j4])],[]⟩) zen (j3,0) (fun _=>⟨_,_,_,_,rfl⟩) h (by kernel_rfl) (fun x4 o h=>?_) (fun r' h=>?_) (fun j4 h=>?_)
            ·unfold zdl at h
             refine adv (ok X) 2 [] pT (by kernel_rfl) ?_
             refine jn (ok X) 1 (fun (j5:Bool)=>⟨191,0,[(0,[xL (List.map z09 a0)]),(1,[xL (List.map z09 a1)]),(5,[xI x1]),(6,[xP 0 0]),(7,[xP 1 0]),(8,[xB x4.1]),(9,[xI x4.2]),(129,[xB j5])],[oB 50 (bs (z56 v1)),oB 50 (bs (z56 v2))]⟩) h (fun j5 h=>?_) (fun j5 h=>?_)
             ·rcases iteE h with ⟨k29,h⟩|⟨k29,h⟩
              ·obtain rfl:=retE h
               exact fin (ok X) 1 [.i (v1.Arms.length:Int),.b true,.b true] (pA (lm z4o v1.Arms) (pA k29 (pA k29 pT))) (by kernel_rfl)
              ·obtain rfl:=retE h
               exact fin (ok X) 1 [.i (v1.Arms.length:Int),.b false,.b false] (pA (lm z4o v1.Arms) (pA k29 (pA k29 pT))) (by kernel_rfl)
             ·rcases iteE h with ⟨k30,h⟩|⟨k30,h⟩
              ·refine adv (ok X) 3 [.b true] (pA k30 pT) (by kernel_rfl) ?_
               refine jn (ok X) 1 (fun (j6:Bool)=>⟨191,0,[(0,[xL (List.map z09 a0)]),(1,[xL (List.map z09 a1)]),(5,[xI x1]),(6,[xP 0 0]),(7,[xP 1 0]),(8,[xB j6]),(9,[xI x4.2])],[oB 50 (bs (z56 v1)),oB 50 (bs (z56 v2))]⟩) h (fun j6 h=>?_) (fun j6 h=>?_)
               ·obtain ⟨v10,k31,h⟩:=z07 h
                obtain ⟨v11,k32,h⟩:=z07 h
                rcases iteE h with ⟨k33,h⟩|⟨k33,h⟩
                ·rcases iteE h with ⟨k34,h⟩|⟨k34,h⟩
                 ·obtain ⟨v12,k35,h⟩:=z07 h
                  obtain rfl:=retE h
                  exact fin (ok X) 3 (.o [0,1,2,3,4,5,6,7,8,9,10,11,12,13,14,15,16,17,18,19,20,21,22,23,24,25,26,27,28,29,30,31,32,33,34,35,36,37,38,39,40,41,42,43]::.e (z4v v10)::.e (z4v v11)::bT 4 (.e (z4v v10)::bT 6 (.e (z4v v11)::bT 8 (.e (z4v v10)::bT 6 (.e (z4v v11)::bT 3 [.c (z4y v12),.b true]))))) (pA (ixr z2w k31) (pA (ixr z2w k32) (pR 4 k33 (pA (ixr z2w k31) (pR 6 k33 (pA (ixr z2w k32) (pR 4 k33 (pR 4 k34 (pA (ixr z2w k31) (pR 6 k34 (pA (ixr z2w k32) (pR 3 k34 (pA (ih_r02_sameStmts _ _ _ k35) (pA k34 pT)))))))))))))) (by kernel_rfl)
                 ·obtain rfl:=retE h
                  exact fin (ok X) 3 (.o [0,1,2,3,4,5,6,7,8,9,10,11,12,13,14,15,16,17,18,19,20,21,22,23,24,25,26,27,28,29,30,31,32,33,34,35,36,37,38,39,40,41,42,43]::.e (z4v v10)::.e (z4v v11)::bT 4 (.e (z4v v10)::bT 6 (.e (z4v v11)::bT 4 (bF 14 [])))) (pA (ixr z2w k31) (pA (ixr z2w k32) (pR 4 k33 (pA (ixr z2w k31) (pR 6 k33 (pA (ixr z2w k32) (pR 4 k33 (pR 14 k34 pT)))))))) (by kernel_rfl)
                ·obtain rfl:=retE h
                 exact fin (ok X) 3 (.o [0,1,2,3,4,5,6,7,8,9,10,11,12,13,14,15,16,17,18,19,20,21,22,23,24,25,26,27,28,29,30,31,32,33,34,35,36,37,38,39,40,41,42,43]::.e (z4v v10)::.e (z4v v11)::bF 28 []) (pA (ixr z2w k31) (pA (ixr z2w k32) (pR 14 k33 (pR 14 ff pT)))) (by kernel_rfl)
               ·obtain rfl:=retE h
                exact fin (ok X) 1 [] pT (by kernel_rfl)
              ·obtain rfl:=retE h
               exact fin (ok X) 2 [.b false] (pA k30 pT) (by kernel_rfl)
            ·cases h
            ·rcases iteE h with ⟨k36,h⟩|⟨k36,h⟩
             ·obtain rfl:=retE h
              exact fin (ok X) 7 [.b true] (pA k36 pT) (by kernel_rfl)
             ·obtain rfl:=retE h
              exact fin (ok X) 6 [.b false] (pA k36 pT) (by kernel_rfl)
          ·refine adv (ok X) 3 [.b false] (pA k27 pT) (by kernel_rfl) ?_
           rcases iteE h with ⟨k37,h⟩|⟨k37,h⟩
           ·obtain ⟨v13,k38,h⟩:=z07 h
            refine adv (ok X) 5 [.b true,.c (z7q v13)] (pA k37 (pA (z9h (X:=X) k38) pT)) (by kernel_rfl) ?_
            rcases iteE h with ⟨k39,h⟩|⟨k39,h⟩
            ·obtain rfl:=retE h
             exact fin (ok X) 4 [.b true] (pA k39 pT) (by kernel_rfl)
            ·obtain rfl:=retE h
             exact fin (ok X) 3 [.b false] (pA k39 pT) (by kernel_rfl)
           ·refine adv (ok X) 3 [.b false] (pA k37 pT) (by kernel_rfl) ?_
            rcases iteE h with ⟨k40,h⟩|⟨k40,h⟩
            ·refine adv (ok X) 5 [.b true] (pA k40 pT) (by kernel_rfl) ?_
             rcases iteE h with ⟨k41,h⟩|⟨k41,h⟩
             ·obtain rfl:=retE h
              exact fin (ok X) 4 [.b true] (pA k41 pT) (by kernel_rfl)
             ·obtain rfl:=retE h
              exact fin (ok X) 3 [.b false] (pA k41 pT) (by kernel_rfl)
            ·obtain rfl:=retE h
             exact fin (ok X) 8 [.b false,.b false] (pA k40 (pA (notT tt) pT)) (by kernel_rfl)
    ·obtain rfl:=retE h
     kernel_rfl
    ·obtain rfl:=retE h
     exact fin (ok X) 1 [] pT (by kernel_rfl)
   ·obtain rfl:=retE h
    exact fin (ok X) 2 [.b false] (pA k2 pT) (by kernel_rfl)
  ·obtain rfl:=retE h
   kernel_rfl
  ·obtain rfl:=retE h
   exact fin (ok X) 3 [] pT (by kernel_rfl)
theorem zfx:∀ n:Nat,(∀ (a0:(List z03)) (a1:(List z03)) (r:Bool),z5i n a0 a1=some r→Cv Tryz.prog (GX X) 49 [xL (List.map z09 a0),xL (List.map z09 a1)] (z4y r))
 | 0=>(fun _ _ _ h=>by rw [z5i] at h;cases h)
 | n+1=>by
  have ih:=zfx n
  exact znl ih
theorem znm {a0:(List z03)} {a1:(List z03)} {r:Bool} (h:zgk a0 a1=some r):Cv Tryz.prog (GX X) 49 [xL (List.map z09 a0),xL (List.map z09 a1)] (z4y r):=by
 obtain ⟨n,hn⟩:=unfE h
 exact (zfx n) _ _ _ hn
theorem zy6 {a0:z0i} {a1:z0i} {r:Bool} (h:zid a0 a1=some r):Cv Tryz.prog (GX X) 15 [.agg (bs (z0e a0)),.agg (bs (z0e a1))] (zie r):=by
 refine Cs.toV (?_:Cs Tryz.prog (GX X) 15 [.agg (bs (z0e a0)),.agg (bs (z0e a1))] [] (zie r) (zp5 r)) (by kernel_rfl)
 refine fnT (cx:=cx X) Tryz.f15 Tryz.call15 Tryz.func15 (by kernel_rfl) ?_
 unfold zid at h
 refine adv (ok X) 4 [] pT (by kernel_rfl) ?_
 refine jn (ok X) 1 (fun (j1:Bool)=>⟨185,0,[(2,[xP 0 0]),(3,[xP 1 0]),(39,[xB j1])],[oB 34 (bs (z0e a0)),oB 34 (bs (z0e a1))]⟩) h (fun j1 h=>?_) (fun j1 h=>?_)
 ·rcases iteE h with ⟨k1,h⟩|⟨k1,h⟩
  ·obtain rfl:=retE h
   exact fin (ok X) 1 (.i (a0.Chans.length:Int)::.i (a1.Chans.length:Int)::bT 16 []) (pA (lm z2a a0.Chans) (pA (lm z2a a1.Chans) (pR 8 k1 (pR 8 tt pT)))) (by kernel_rfl)
  ·rcases iteE h with ⟨k2,h⟩|⟨k2,h⟩
   ·obtain rfl:=retE h
    exact fin (ok X) 1 (.i (a0.Chans.length:Int)::.i (a1.Chans.length:Int)::bF 3 (.i (a0.Rules.length:Int)::bF 3 (.i (a1.Rules.length:Int)::.b false::.b false::bT 8 []))) (pA (lm z2a a0.Chans) (pA (lm z2a a1.Chans) (pR 3 k1 (pA (lm z1p a0.Rules) (pR 3 k1 (pA (lm z1p a1.Rules) (pA k1 (pA k1 (pR 8 k2 pT))))))))) (by kernel_rfl)
   ·obtain rfl:=retE h
    exact fin (ok X) 1 (.i (a0.Chans.length:Int)::.i (a1.Chans.length:Int)::bF 3 (.i (a0.Rules.length:Int)::bF 3 (.i (a1.Rules.length:Int)::bF 5 (.i (a0.Procs.length:Int)::bF 3 [.i (a1.Procs.length:Int),.b false,.b false])))) (pA (lm z2a a0.Chans) (pA (lm z2a a1.Chans) (pR 3 k1 (pA (lm z1p a0.Rules) (pR 3 k1 (pA (lm z1p a1.Rules) (pA k1 (pA k1 (pR 3 k2 (pA (lm z2e a0.Procs) (pR 3 k2 (pA (lm z2e a1.Procs) (pA k2 (pA k2 pT)))))))))))))) (by kernel_rfl)
 ·rcases iteE h with ⟨k3,h⟩|⟨k3,h⟩
  ·obtain rfl:=retE h
   exact fin (ok X) 4 [.b true] (pA k3 pT) (by kernel_rfl)
  ·refine adv (ok X) 5 [.b false] (pA k3 pT) (by kernel_rfl) ?_
   refine lp (ok X) (zeo a0 a1) (fun (x2:Int)=>⟨185,0,[(2,[xP 0 0]),(3,[xP 1 0]),(5,[xI x2])],[oB 34 (bs (z0e a0)),oB 34 (bs (z0e a1))]⟩) (fun (j2:Unit)=>⟨185,0,[(2,[xP 0 0]),(3,[xP 1 0])],[oB 34 (bs (z0e a0)),oB 34 (bs (z0e a1))]⟩) zif 0 (fun _=>⟨_,_,_,_,rfl⟩) h (by kernel_rfl) (fun x2 o h=>?_) (fun r' h=>?_) (fun j2 h=>?_)
   ·unfold zeo at h
    refine adv (ok X) 3 [.i (a0.Chans.length:Int)] (pA (lm z2a a0.Chans) pT) (by kernel_rfl) ?_
    rcases iteE h with ⟨k4,h⟩|⟨k4,h⟩
    ·obtain ⟨v1,k5,h⟩:=z07 h
     obtain ⟨v2,k6,h⟩:=z07 h
     refine adv (ok X) 7 [.b true,.o [0,1,2,3,4,5,6,7,8,9,10,11,12,13],.e (z2a v1),.e (z2a v2)] (pA k4 (pA (ixm z2a k5) (pA (ixm z2a k6) pT))) (by kernel_rfl) ?_
     refine jn (ok X) 1 (fun (j3:Bool)=>⟨185,0,[(2,[xP 0 0]),(3,[xP 1 0]),(5,[xI x2]),(97,[xB j3])],[oB 34 (bs (z0e a0)),oB 34 (bs (z0e a1))]⟩) h (fun j3 h=>?_) (fun j3 h=>?_)
     ·rcases iteE h with ⟨k7,h⟩|⟨k7,h⟩
      ·obtain rfl:=retE h
       exact fin (ok X) 1 (bT 31 []) (pR 6 k7 (pR 25 tt pT)) (by kernel_rfl)
      ·rcases iteE h with ⟨k8,h⟩|⟨k8,h⟩
       ·obtain rfl:=retE h
        exact fin (ok X) 1 (bF 6 (bT 25 [])) (pR 6 k7 (pR 6 k8 (pR 19 tt pT))) (by kernel_rfl)
       ·rcases iteE h with ⟨k9,h⟩|⟨k9,h⟩
        ·obtain rfl:=retE h
         exact fin (ok X) 1 (bF 12 (bT 19 [])) (pR 6 k7 (pR 6 k8 (pR 6 k9 (pR 13 tt pT)))) (by kernel_rfl)
        ·rcases iteE h with ⟨k10,h⟩|⟨k10,h⟩
         ·obtain rfl:=retE h
          exact fin (ok X) 1 (bF 18 (bT 13 [])) (pR 6 k7 (pR 6 k8 (pR 6 k9 (pR 6 k10 (pR 7 tt pT))))) (by kernel_rfl)
         ·rcases iteE h with ⟨k11,h⟩|⟨k11,h⟩
          ·obtain rfl:=retE h
           exact fin (ok X) 1 (bF 24 (bT 7 [])) (pR 6 k7 (pR 6 k8 (pR 6 k9 (pR 6 k10 (pR 7 k11 pT))))) (by kernel_rfl)
          ·obtain ⟨v3,k12,h⟩:=z07 h
           obtain rfl:=retE h
           exact fin (ok X) 1 (bF 29 [.c (z8x v3),.b false,.b false]) (pR 6 k7 (pR 6 k8 (pR 6 k9 (pR 6 k10 (pR 5 k11 (pA (zeu (X:=X) k12) (pA k11 (pA k11 pT)))))))) (by kernel_rfl)
     ·rcases iteE h with ⟨k13,h⟩|⟨k13,h⟩
      ·obtain rfl:=retE h
       exact fin (ok X) 4 [.b true] (pA k13 pT) (by kernel_rfl)
      ·obtain rfl:=retE h
       exact fin (ok X) 4 [.b false] (pA k13 pT) (by kernel_rfl)
    ·obtain rfl:=retE h
     exact fin (ok X) 2 [.b false] (pA k4 pT) (by kernel_rfl)
   ·obtain rfl:=retE h
    kernel_rfl
   ·refine adv (ok X) 3 [] pT (by kernel_rfl) ?_
    refine lp (ok X) (zep a0 a1) (fun (x4:Int)=>⟨185,0,[(2,[xP 0 0]),(3,[xP 1 0]),(8,[xI x4])],[oB 34 (bs (z0e a0)),oB 34 (bs (z0e a1))]⟩) (fun (j4:Unit)=>⟨185,0,[(2,[xP 0 0]),(3,[xP 1 0])],[oB 34 (bs (z0e a0)),oB 34 (bs (z0e a1))]⟩) zif 0 (fun _=>⟨_,_,_,_,rfl⟩) h (by kernel_rfl) (fun x4 o h=>?_) (fun r' h=>?_) (fun j4 h=>?_)
    ·unfold zep at h
     refine adv (ok X) 3 [.i (a0.Rules.length:Int)] (pA (lm z1p a0.Rules) pT) (by kernel_rfl) ?_
     rcases iteE h with ⟨k14,h⟩|⟨k14,h⟩
     ·obtain ⟨v4,k15,h⟩:=z07 h
      obtain ⟨v5,k16,h⟩:=z07 h
      refine adv (ok X) 8 [.b true,.o [0,1,2,3,4,5,6,7,8,9,10,11,12,13],.e (z1p v4),.e (z1p v5)] (pA k14 (pA (ixm z1p k15) (pA (ixm z1p k16) pT))) (by kernel_rfl) ?_
      refine jn (ok X) 1 (fun (j5:Bool)=>⟨185,0,[(2,[xP 0 0]),(3,[xP 1 0]),(8,[xI x4]),(9,[xP 2 0]),(10,[xP 3 0]),(128,[xB j5])],[oB 34 (bs (z0e a0)),oB 34 (bs (z0e a1)),oB 95 (bs (z1p v4)),oB 95 (bs (z1p v5))]⟩) h (fun j5 h=>?_) (fun j5 h=>?_)
      ·rcases iteE h with ⟨k17,h⟩|⟨k17,h⟩
       ·obtain rfl:=retE h
        exact fin (ok X) 1 (bT 8 []) (pR 8 k17 pT) (by kernel_rfl)
       ·obtain rfl:=retE h
        exact fin (ok X) 1 (bF 3 (.i (v4.Moves.length:Int)::bF 3 [.i (v5.Moves.length:Int),.b false,.b false])) (pR 3 k17 (pA (lm z4r v4.Moves) (pR 3 k17 (pA (lm z4r v5.Moves) (pA k17 (pA k17 pT)))))) (by kernel_rfl)
      ·rcases iteE h with ⟨k18,h⟩|⟨k18,h⟩
       ·obtain rfl:=retE h
        exact fin (ok X) 4 [.b true] (pA k18 pT) (by kernel_rfl)
       ·refine adv (ok X) 4 [.b false] (pA k18 pT) (by kernel_rfl) ?_
        refine lp (ok X) (zjj v4 v5) (fun (x6:Int)=>⟨185,0,[(2,[xP 0 0]),(3,[xP 1 0]),(8,[xI x4]),(9,[xP 2 0]),(10,[xP 3 0]),(11,[xI x6])],[oB 34 (bs (z0e a0)),oB 34 (bs (z0e a1)),oB 95 (bs (z1p v4)),oB 95 (bs (z1p v5))]⟩) (fun (j6:Unit)=>⟨185,0,[(2,[xP 0 0]),(3,[xP 1 0]),(8,[xI x4])],[oB 34 (bs (z0e a0)),oB 34 (bs (z0e a1))]⟩) zif 0 (fun _=>⟨_,_,_,_,rfl⟩) h (by kernel_rfl) (fun x6 o h=>?_) (fun r' h=>?_) (fun j6 h=>?_)
        ·unfold zjj at h
         refine adv (ok X) 3 [.i (v4.Moves.length:Int)] (pA (lm z4r v4.Moves) pT) (by kernel_rfl) ?_
         rcases iteE h with ⟨k19,h⟩|⟨k19,h⟩
         ·obtain ⟨v6,k20,h⟩:=z07 h
          obtain ⟨v7,k21,h⟩:=z07 h
          refine adv (ok X) 6 [.b true,.o [0,1,2,3,4,5,6,7,8,9,10],.e (z4r v6),.e (z4r v7)] (pA k19 (pA (ixm z4r k20) (pA (ixm z4r k21) pT))) (by kernel_rfl) ?_
          rcases iteE h with ⟨k22,h⟩|⟨k22,h⟩
          ·obtain rfl:=retE h
           exact fin (ok X) 4 [.b true] (pA k22 pT) (by kernel_rfl)
          ·obtain rfl:=retE h
           exact fin (ok X) 4 [.b false] (pA k22 pT) (by kernel_rfl)
         ·obtain rfl:=retE h
          exact fin (ok X) 2 [.b false] (pA k19 pT) (by kernel_rfl)
        ·obtain rfl:=retE h
         kernel_rfl
        ·obtain rfl:=retE h
         exact fin (ok X) 2 [] pT (by kernel_rfl)
     ·obtain rfl:=retE h
      exact fin (ok X) 2 [.b false] (pA k14 pT) (by kernel_rfl)
    ·obtain rfl:=retE h
     kernel_rfl
    ·refine adv (ok X) 3 [] pT (by kernel_rfl) ?_
     refine lp (ok X) (z9w a0 a1) (fun (x7:Int)=>⟨185,0,[(2,[xP 0 0]),(3,[xP 1 0]),(12,[xI x7])],[oB 34 (bs (z0e a0)),oB 34 (bs (z0e a1))]⟩) (fun (j7:Unit)=>⟨185,0,[],[]⟩) zif 0 (fun _=>⟨_,_,_,_,rfl⟩) h (by kernel_rfl) (fun x7 o h=>?_) (fun r' h=>?_) (fun j7 h=>?_)
     ·unfold z9w at h
      refine adv (ok X) 3 [.i (a0.Procs.length:Int)] (pA (lm z2e a0.Procs) pT) (by kernel_rfl) ?_
      rcases iteE h with ⟨k23,h⟩|⟨k23,h⟩
      ·obtain ⟨v8,k24,h⟩:=z07 h
       obtain ⟨v9,k25,h⟩:=z07 h
       refine adv (ok X) 7 [.b true,.o [0,1,2,3,4,5,6,7,8,9,10,11,12,13],.e (z2e v8),.e (z2e v9)] (pA k23 (pA (ixm z2e k24) (pA (ixm z2e k25) pT))) (by kernel_rfl) ?_
       refine jn (ok X) 1 (fun (j8:Bool)=>⟨185,0,[(2,[xP 0 0]),(3,[xP 1 0]),(12,[xI x7]),(184,[xB j8])],[oB 34 (bs (z0e a0)),oB 34 (bs (z0e a1))]⟩) h (fun j8 h=>?_) (fun j8 h=>?_)
       ·rcases iteE h with ⟨k26,h⟩|⟨k26,h⟩
        ·obtain rfl:=retE h
         exact fin (ok X) 1 (bT 14 []) (pR 7 k26 (pR 7 tt pT)) (by kernel_rfl)
        ·obtain ⟨v10,k27,h⟩:=z07 h
         rcases iteE h with ⟨k28,h⟩|⟨k28,h⟩
         ·obtain rfl:=retE h
          exact fin (ok X) 1 (bF 5 (.c (z8x v10)::.b false::.b false::bT 7 [])) (pR 5 k26 (pA (zeu (X:=X) k27) (pA k26 (pA k26 (pR 7 k28 pT))))) (by kernel_rfl)
         ·obtain ⟨v11,k29,h⟩:=z07 h
          obtain rfl:=retE h
          exact fin (ok X) 1 (bF 5 (.c (z8x v10)::bF 7 [.c (z4y v11),.b false,.b false])) (pR 5 k26 (pA (zeu (X:=X) k27) (pA k26 (pA k26 (pR 5 k28 (pA (znm (X:=X) k29) (pA k28 (pA k28 pT)))))))) (by kernel_rfl)
       ·rcases iteE h with ⟨k30,h⟩|⟨k30,h⟩
        ·obtain rfl:=retE h
         exact fin (ok X) 4 [.b true] (pA k30 pT) (by kernel_rfl)
        ·obtain rfl:=retE h
         exact fin (ok X) 4 [.b false] (pA k30 pT) (by kernel_rfl)
      ·obtain rfl:=retE h
       exact fin (ok X) 2 [.b false] (pA k23 pT) (by kernel_rfl)
     ·obtain rfl:=retE h
      kernel_rfl
     ·obtain rfl:=retE h
      exact fin (ok X) 3 [] pT (by kernel_rfl)
theorem zm4 {a0:z04} {a1:Int} {r:Bool} (h:zar a0 a1=some r):Cv Tryz.prog (GX X) 4 [.agg (bs (z0f a0)),xI a1] (zdm r):=by
 refine Cs.toV (?_:Cs Tryz.prog (GX X) 4 [.agg (bs (z0f a0)),xI a1] [] (zdm r) (zgp r)) (by kernel_rfl)
 refine fnT (cx:=cx X) Tryz.f4 Tryz.call4 Tryz.func4 (by kernel_rfl) ?_
 unfold zar at h
 obtain ⟨v1,k1,h⟩:=z07 h
 obtain ⟨v2,k2,h⟩:=z07 h
 refine adv (ok X) 10 [.i v1,.bl (List.map z09 [(z03.mk 1 (ByteArray.mk #[120]) (ByteArray.mk #[]) a0 (z1k.mk 0 (z04.mk 0 0 (ByteArray.mk #[]) []) (z04.mk 0 0 (ByteArray.mk #[]) [])) [] [] [])]),.c (zge v2)] (pA k1 (pA (blc (e:=z09) (x:=(z03.mk 1 (ByteArray.mk #[120]) (ByteArray.mk #[]) a0 (z1k.mk 0 (z04.mk 0 0 (ByteArray.mk #[]) []) (z04.mk 0 0 (ByteArray.mk #[]) [])) [] [] [])) (z7l _).symm (bl0 z09)) (pA (zu0 (X:=X) k2) pT))) (by kernel_rfl) ?_
 refine jn (ok X) 1 (fun (j1:Bool)=>⟨113,0,[(5,[xI (IntKind.i64.wrap v1)]),(6,[xP 1 0]),(7,[xL (List.map z1g v2.1)]),(44,[xB j1])],[none,oB 34 [.emp,.emp,.pv (.sl (List.map z2e [(z31.mk (ByteArray.mk #[112]) [] [(z03.mk 1 (ByteArray.mk #[120]) (ByteArray.mk #[]) a0 (z1k.mk 0 (z04.mk 0 0 (ByteArray.mk #[]) []) (z04.mk 0 0 (ByteArray.mk #[]) [])) [] [] [])])]))]]⟩) h (fun j1 h=>?_) (fun j1 h=>?_)
 ·obtain ⟨v3,k3,h⟩:=z07 h
  rcases iteE h with ⟨k4,h⟩|⟨k4,h⟩
  ·obtain rfl:=retE h
   exact fin (ok X) 1 (.c (zbx v3)::bT 7 []) (pA (zf7 (X:=X) k3) (pR 3 k4 (pR 4 tt pT))) (by kernel_rfl)
  ·rcases iteE h with ⟨k5,h⟩|⟨k5,h⟩
   ·obtain rfl:=retE h
    exact fin (ok X) 1 (.c (zbx v3)::bF 3 (bT 4 [])) (pA (zf7 (X:=X) k3) (pR 3 k4 (pR 4 k5 pT))) (by kernel_rfl)
   ·obtain rfl:=retE h
    exact fin (ok X) 1 (.c (zbx v3)::bF 5 [.i (v2.1.length:Int),.b false,.b false]) (pA (zf7 (X:=X) k3) (pR 3 k4 (pA k5 (pA k5 (pA (lm z1g v2.1) (pA k5 (pA k5 pT))))))) (by kernel_rfl)
 ·rcases iteE h with ⟨k6,h⟩|⟨k6,h⟩
  ·obtain ⟨v4,k7,h⟩:=z07 h
   obtain rfl:=retE h
   exact fin (ok X) 4 [.b true,.c (zbx v4)] (pA k6 (pA (zf7 (X:=X) k7) pT)) (by kernel_rfl)
  ·refine adv (ok X) 7 [.b false] (pA k6 pT) (by kernel_rfl) ?_
   refine lp (ok X) (z7w v1) (fun (x2:(ByteArray × Int))=>⟨113,0,[(5,[xI (IntKind.i64.wrap v1)]),(6,[xP 1 0]),(7,[xL (List.map z1g v2.1)]),(9,[xS x2.1]),(10,[xI x2.2])],[none,oB 34 [.emp,.emp,.pv (.sl (List.map z2e [(z31.mk (ByteArray.mk #[112]) [] [(z03.mk 1 (ByteArray.mk #[120]) (ByteArray.mk #[]) a0 (z1k.mk 0 (z04.mk 0 0 (ByteArray.mk #[]) []) (z04.mk 0 0 (ByteArray.mk #[]) [])) [] [] [])])]))]]⟩) (fun (j2:ByteArray)=>⟨113,0,[(5,[xI (IntKind.i64.wrap v1)]),(6,[xP 1 0]),(7,[xL (List.map z1g v2.1)]),(9,[xS j2])],[none,oB 34 [.emp,.emp,.pv (.sl (List.map z2e [(z31.mk (ByteArray.mk #[112]) [] [(z03.mk 1 (ByteArray.mk #[120]) (ByteArray.mk #[]) a0 (z1k.mk 0 (z04.mk 0 0 (ByteArray.mk #[]) []) (z04.mk 0 0 (ByteArray.mk #[]) [])) [] [] [])])]))]]⟩) zdn ((ByteArray.mk #[112,114,111,99,32,112,32,123,32,120,32,61,32]),0) (fun _=>⟨_,_,_,_,rfl⟩) h (by kernel_rfl) (fun x2 o h=>?_) (fun r' h=>?_) (fun j2 h=>?_)
   ·unfold z7w at h
    rcases iteE h with ⟨k8,h⟩|⟨k8,h⟩
    ·obtain ⟨v5,k9,h⟩:=z07 h
     obtain rfl:=retE h
     exact fin (ok X) 10 [.b true,.x [xS v5]] (pA k8 (pA k9 pT)) (by kernel_rfl)
    ·obtain rfl:=retE h
     exact fin (ok X) 5 [.b false] (pA k8 pT) (by kernel_rfl)
   ·cases h
   ·refine adv (ok X) 3 [] pT (by kernel_rfl) ?_
    refine lp (ok X) (z66 v2) (fun (x3:(ByteArray × Int))=>⟨113,0,[(5,[xI (IntKind.i64.wrap v1)]),(6,[xP 1 0]),(7,[xL (List.map z1g v2.1)]),(9,[xS x3.1]),(11,[xI x3.2])],[none,oB 34 [.emp,.emp,.pv (.sl (List.map z2e [(z31.mk (ByteArray.mk #[112]) [] [(z03.mk 1 (ByteArray.mk #[120]) (ByteArray.mk #[]) a0 (z1k.mk 0 (z04.mk 0 0 (ByteArray.mk #[]) []) (z04.mk 0 0 (ByteArray.mk #[]) [])) [] [] [])])]))]]⟩) (fun (j3:ByteArray)=>⟨113,0,[(5,[xI (IntKind.i64.wrap v1)]),(6,[xP 1 0]),(9,[xS j3])],[none,oB 34 [.emp,.emp,.pv (.sl (List.map z2e [(z31.mk (ByteArray.mk #[112]) [] [(z03.mk 1 (ByteArray.mk #[120]) (ByteArray.mk #[]) a0 (z1k.mk 0 (z04.mk 0 0 (ByteArray.mk #[]) []) (z04.mk 0 0 (ByteArray.mk #[]) [])) [] [] [])])]))]]⟩) zdn (j2,5) (fun _=>⟨_,_,_,_,rfl⟩) h (by kernel_rfl) (fun x3 o h=>?_) (fun r' h=>?_) (fun j3 h=>?_)
    ·unfold z66 at h
     refine adv (ok X) 3 [.i (v2.1.length:Int)] (pA (lm z1g v2.1) pT) (by kernel_rfl) ?_
     rcases iteE h with ⟨k10,h⟩|⟨k10,h⟩
     ·obtain ⟨v6,k11,h⟩:=z07 h
      obtain ⟨v7,k12,h⟩:=z07 h
      obtain ⟨v8,k13,h⟩:=z07 h
      obtain rfl:=retE h
      exact fin (ok X) 7 [.b true,.e [.str v6],.x [xS v7],.x [xS v8]] (pA k10 (pA (ixm z1g k11) (pA k12 (pA k13 pT)))) (by kernel_rfl)
     ·obtain rfl:=retE h
      exact fin (ok X) 2 [.b false] (pA k10 pT) (by kernel_rfl)
    ·cases h
    ·refine adv (ok X) 3 [] pT (by kernel_rfl) ?_
     refine lp (ok X) (z7x v1) (fun (x4:(ByteArray × Int))=>⟨113,0,[(5,[xI (IntKind.i64.wrap v1)]),(6,[xP 1 0]),(9,[xS x4.1]),(12,[xI x4.2])],[none,oB 34 [.emp,.emp,.pv (.sl (List.map z2e [(z31.mk (ByteArray.mk #[112]) [] [(z03.mk 1 (ByteArray.mk #[120]) (ByteArray.mk #[]) a0 (z1k.mk 0 (z04.mk 0 0 (ByteArray.mk #[]) []) (z04.mk 0 0 (ByteArray.mk #[]) [])) [] [] [])])]))]]⟩) (fun (j4:ByteArray)=>⟨113,0,[(6,[xP 1 0]),(9,[xS j4])],[none,oB 34 [.emp,.emp,.pv (.sl (List.map z2e [(z31.mk (ByteArray.mk #[112]) [] [(z03.mk 1 (ByteArray.mk #[120]) (ByteArray.mk #[]) a0 (z1k.mk 0 (z04.mk 0 0 (ByteArray.mk #[]) []) (z04.mk 0 0 (ByteArray.mk #[]) [])) [] [] [])])]))]]⟩) zdn (j3,0) (fun _=>⟨_,_,_,_,rfl⟩) h (by kernel_rfl) (fun x4 o h=>?_) (fun r' h=>?_) (fun j4 h=>?_)
     ·unfold z7x at h
      rcases iteE h with ⟨k14,h⟩|⟨k14,h⟩
      ·obtain ⟨v9,k15,h⟩:=z07 h
       obtain rfl:=retE h
       exact fin (ok X) 10 [.b true,.x [xS v9]] (pA k14 (pA k15 pT)) (by kernel_rfl)
      ·obtain rfl:=retE h
       exact fin (ok X) 5 [.b false] (pA k14 pT) (by kernel_rfl)
     ·cases h
     ·obtain ⟨v10,k16,h⟩:=z07 h
      obtain ⟨v11,k17,h⟩:=z07 h
      obtain ⟨v12,k18,h⟩:=z07 h
      refine adv (ok X) 8 [.x [xS v10],.c (za9 v11),.c (zgi v12)] (pA k16 (pA (zgl (X:=X) k17) (pA (zu2 (X:=X) k18) pT))) (by kernel_rfl) ?_
      refine jn (ok X) 1 (fun (j5:Bool)=>⟨113,0,[(6,[xP 1 0]),(13,[xP 2 0]),(15,[xI v11.2.2]),(16,[xP 3 0]),(95,[xB j5])],[none,oB 34 [.emp,.emp,.pv (.sl (List.map z2e [(z31.mk (ByteArray.mk #[112]) [] [(z03.mk 1 (ByteArray.mk #[120]) (ByteArray.mk #[]) a0 (z1k.mk 0 (z04.mk 0 0 (ByteArray.mk #[]) []) (z04.mk 0 0 (ByteArray.mk #[]) [])) [] [] [])])]))],oB 26 (bs (z9r v11.1)),oB 34 (bs (z0e v12.1))]⟩) h (fun j5 h=>?_) (fun j5 h=>?_)
      ·rcases iteE h with ⟨k19,h⟩|⟨k19,h⟩
       ·obtain rfl:=retE h
        exact fin (ok X) 1 (bT 4 []) (pR 4 k19 pT) (by kernel_rfl)
       ·obtain rfl:=retE h
        exact fin (ok X) 1 (bF 4 []) (pR 4 k19 pT) (by kernel_rfl)
      ·rcases iteE h with ⟨k20,h⟩|⟨k20,h⟩
       ·obtain rfl:=retE h
        exact fin (ok X) 4 [.b true] (pA k20 pT) (by kernel_rfl)
       ·refine adv (ok X) 3 [.b false] (pA k20 pT) (by kernel_rfl) ?_
        rcases iteE h with ⟨k21,h⟩|⟨k21,h⟩
        ·obtain rfl:=retE h
         exact fin (ok X) 2 (.o [0,1,2,3,4,5,6,7,8,9,10,11,12,13,14,15,16,17]::bT 7 []) (pR 7 k21 pT) (by kernel_rfl)
        ·rcases iteE h with ⟨k22,h⟩|⟨k22,h⟩
         ·obtain ⟨v13,k23,h⟩:=z07 h
          obtain ⟨v14,k24,h⟩:=z07 h
          rcases iteE h with ⟨k25,h⟩|⟨k25,h⟩
          ·obtain ⟨v15,k26,h⟩:=z07 h
           obtain rfl:=retE h
           exact fin (ok X) 2 (.o [0,1,2,3,4,5,6,7,8,9,10,11,12,13,14,15,16,17]::bF 3 (bT 3 (.c (zde v13)::.b true::.c (zic v14)::.b false::.b true::.b false::bT 3 [.c (zie v15),.b false,.b true,.b false]))) (pR 3 k21 (pR 3 k22 (pA (zlx (X:=X) k23) (pA k22 (pA (zp7 (X:=X) k24) (pA k21 (pA k22 (pA k21 (pR 3 k25 (pA (zy6 (X:=X) k26) (pA k21 (pA k25 (pA k21 pT))))))))))))) (by kernel_rfl)
          ·obtain rfl:=retE h
           exact fin (ok X) 2 (.o [0,1,2,3,4,5,6,7,8,9,10,11,12,13,14,15,16,17]::bF 3 (bT 3 (.c (zde v13)::.b true::.c (zic v14)::.b false::.b true::bF 7 []))) (pR 3 k21 (pR 3 k22 (pA (zlx (X:=X) k23) (pA k22 (pA (zp7 (X:=X) k24) (pA k21 (pA k22 (pA k21 (pR 3 k25 (pA k21 (pA k25 (pA k21 pT)))))))))))) (by kernel_rfl)
         ·obtain rfl:=retE h
          exact fin (ok X) 2 (.o [0,1,2,3,4,5,6,7,8,9,10,11,12,13,14,15,16,17]::bF 16 []) (pR 3 k21 (pR 4 k22 (pA k21 (pA k22 (pA k21 (pR 3 ff (pA k21 (pA ff (pA k21 pT))))))))) (by kernel_rfl)
end Go.Proofs.YtokjbpmjdcbogaaGreatDoor.Abs

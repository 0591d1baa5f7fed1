/- Gw: the functions are these. -/
import Derived.Test.YtokjbpmjdcbogaaGreatDoorGwW1
namespace Go.Proofs.YtokjbpmjdcbogaaGreatDoor.Abs
open Go Go.RowKit
set_option linter.unusedVariables false
set_option maxRecDepth 100000
set_option maxHeartbeats 4000000
variable {X:EV}
theorem zf7 {r:Bool} (h:ze6=some r):Cv Tryz.prog (GX X) 11 [] (zbx r):=by
 refine Cs.toV (?_:Cs Tryz.prog (GX X) 11 [] [] (zbx r) (zs1 r)) (by kernel_rfl)
 refine fnT (cx:=cx X) Tryz.f11 Tryz.call11 Tryz.func11 (by kernel_rfl) ?_
 unfold ze6 at h
 obtain ⟨v1,k1,h⟩:=z07 h
 obtain ⟨v2,k2,h⟩:=z07 h
 refine adv (ok X) 7 [.c (za9 v1),.c (za9 v2)] (pA (zgl (X:=X) k1) (pA (zgl (X:=X) k2) pT)) (by kernel_rfl) ?_
 refine jn (ok X) 1 (fun (j1:Bool)=>⟨82,0,[(0,[xB j1])],[]⟩) h (fun j1 h=>?_) (fun j1 h=>?_)
 ·rcases iteE h with ⟨k3,h⟩|⟨k3,h⟩
  ·rcases iteE h with ⟨k4,h⟩|⟨k4,h⟩
   ·obtain ⟨v3,k5,h⟩:=z07 h
    rcases iteE h with ⟨k6,h⟩|⟨k6,h⟩
    ·obtain ⟨v4,k7,h⟩:=z07 h
     obtain ⟨v5,k8,h⟩:=z07 h
     rcases iteE h with ⟨k9,h⟩|⟨k9,h⟩
     ·obtain ⟨v6,k10,h⟩:=z07 h
      obtain ⟨v7,k11,h⟩:=z07 h
      rcases iteE h with ⟨k12,h⟩|⟨k12,h⟩
      ·obtain ⟨v8,k13,h⟩:=z07 h
       obtain ⟨v9,k14,h⟩:=z07 h
       obtain ⟨v10,k15,h⟩:=z07 h
       rcases iteE h with ⟨k16,h⟩|⟨k16,h⟩
       ·rcases iteE h with ⟨k17,h⟩|⟨k17,h⟩
        ·obtain rfl:=retE h
         exact fin (ok X) 1 (bT 3 (.i (v1.1.Procs.length:Int)::bT 5 (.e (z0x v3)::bT 3 (.i (v3.Body.length:Int)::bT 5 (.e (z0x v4)::bT 3 (.e (z2p v5)::bT 8 (.e (z0x v6)::bT 3 (.e (z2p v7)::bT 4 (.i (v7.E.Kids.length:Int)::bT 5 (.e (z0x v8)::bT 3 (.e (z2p v9)::bT 4 (.e (z3d v10)::bT 10 [])))))))))))) (pR 3 k3 (pA (lm z0x v1.1.Procs) (pA k3 (pA k3 (pR 3 k4 (pA (ixm z0x k5) (pR 3 k4 (pA (lm z16 v3.Body) (pA k4 (pA k4 (pR 3 k6 (pA (ixm z0x k7) (pR 3 k6 (pA (ixr z45 k8) (pR 5 k6 (pR 3 k9 (pA (ixm z0x k10) (pR 3 k9 (pA (ixr z45 k11) (pR 4 k9 (pA (lm z15 v7.E.Kids) (pA k9 (pA k9 (pR 3 k12 (pA (ixm z0x k13) (pR 3 k12 (pA (ixr z45 k14) (pR 4 k12 (pA (ixr z5z k15) (pR 4 k12 (pR 3 k16 (pR 3 k17 pT)))))))))))))))))))))))))))))))) (by kernel_rfl)
        ·obtain rfl:=retE h
         exact fin (ok X) 1 (bT 3 (.i (v1.1.Procs.length:Int)::bT 5 (.e (z0x v3)::bT 3 (.i (v3.Body.length:Int)::bT 5 (.e (z0x v4)::bT 3 (.e (z2p v5)::bT 8 (.e (z0x v6)::bT 3 (.e (z2p v7)::bT 4 (.i (v7.E.Kids.length:Int)::bT 5 (.e (z0x v8)::bT 3 (.e (z2p v9)::bT 4 (.e (z3d v10)::bT 7 (bF 3 []))))))))))))) (pR 3 k3 (pA (lm z0x v1.1.Procs) (pA k3 (pA k3 (pR 3 k4 (pA (ixm z0x k5) (pR 3 k4 (pA (lm z16 v3.Body) (pA k4 (pA k4 (pR 3 k6 (pA (ixm z0x k7) (pR 3 k6 (pA (ixr z45 k8) (pR 5 k6 (pR 3 k9 (pA (ixm z0x k10) (pR 3 k9 (pA (ixr z45 k11) (pR 4 k9 (pA (lm z15 v7.E.Kids) (pA k9 (pA k9 (pR 3 k12 (pA (ixm z0x k13) (pR 3 k12 (pA (ixr z45 k14) (pR 4 k12 (pA (ixr z5z k15) (pR 4 k12 (pR 3 k16 (pR 3 k17 pT)))))))))))))))))))))))))))))))) (by kernel_rfl)
       ·obtain rfl:=retE h
        exact fin (ok X) 1 (bT 3 (.i (v1.1.Procs.length:Int)::bT 5 (.e (z0x v3)::bT 3 (.i (v3.Body.length:Int)::bT 5 (.e (z0x v4)::bT 3 (.e (z2p v5)::bT 8 (.e (z0x v6)::bT 3 (.e (z2p v7)::bT 4 (.i (v7.E.Kids.length:Int)::bT 5 (.e (z0x v8)::bT 3 (.e (z2p v9)::bT 4 (.e (z3d v10)::bT 4 (bF 6 []))))))))))))) (pR 3 k3 (pA (lm z0x v1.1.Procs) (pA k3 (pA k3 (pR 3 k4 (pA (ixm z0x k5) (pR 3 k4 (pA (lm z16 v3.Body) (pA k4 (pA k4 (pR 3 k6 (pA (ixm z0x k7) (pR 3 k6 (pA (ixr z45 k8) (pR 5 k6 (pR 3 k9 (pA (ixm z0x k10) (pR 3 k9 (pA (ixr z45 k11) (pR 4 k9 (pA (lm z15 v7.E.Kids) (pA k9 (pA k9 (pR 3 k12 (pA (ixm z0x k13) (pR 3 k12 (pA (ixr z45 k14) (pR 4 k12 (pA (ixr z5z k15) (pR 4 k12 (pR 3 k16 (pR 3 ff pT)))))))))))))))))))))))))))))))) (by kernel_rfl)
      ·obtain rfl:=retE h
       exact fin (ok X) 1 (bT 3 (.i (v1.1.Procs.length:Int)::bT 5 (.e (z0x v3)::bT 3 (.i (v3.Body.length:Int)::bT 5 (.e (z0x v4)::bT 3 (.e (z2p v5)::bT 8 (.e (z0x v6)::bT 3 (.e (z2p v7)::bT 4 (.i (v7.E.Kids.length:Int)::.b true::.b true::bF 20 []))))))))) (pR 3 k3 (pA (lm z0x v1.1.Procs) (pA k3 (pA k3 (pR 3 k4 (pA (ixm z0x k5) (pR 3 k4 (pA (lm z16 v3.Body) (pA k4 (pA k4 (pR 3 k6 (pA (ixm z0x k7) (pR 3 k6 (pA (ixr z45 k8) (pR 5 k6 (pR 3 k9 (pA (ixm z0x k10) (pR 3 k9 (pA (ixr z45 k11) (pR 4 k9 (pA (lm z15 v7.E.Kids) (pA k9 (pA k9 (pR 14 k12 (pR 6 ff pT))))))))))))))))))))))))) (by kernel_rfl)
     ·obtain rfl:=retE h
      exact fin (ok X) 1 (bT 3 (.i (v1.1.Procs.length:Int)::bT 5 (.e (z0x v3)::bT 3 (.i (v3.Body.length:Int)::bT 5 (.e (z0x v4)::bT 3 (.e (z2p v5)::bT 5 (bF 32 []))))))) (pR 3 k3 (pA (lm z0x v1.1.Procs) (pA k3 (pA k3 (pR 3 k4 (pA (ixm z0x k5) (pR 3 k4 (pA (lm z16 v3.Body) (pA k4 (pA k4 (pR 3 k6 (pA (ixm z0x k7) (pR 3 k6 (pA (ixr z45 k8) (pR 5 k6 (pR 12 k9 (pR 20 ff pT))))))))))))))))) (by kernel_rfl)
    ·obtain rfl:=retE h
     exact fin (ok X) 1 (bT 3 (.i (v1.1.Procs.length:Int)::bT 5 (.e (z0x v3)::bT 3 (.i (v3.Body.length:Int)::.b true::.b true::bF 43 [])))) (pR 3 k3 (pA (lm z0x v1.1.Procs) (pA k3 (pA k3 (pR 3 k4 (pA (ixm z0x k5) (pR 3 k4 (pA (lm z16 v3.Body) (pA k4 (pA k4 (pR 11 k6 (pR 32 ff pT)))))))))))) (by kernel_rfl)
   ·obtain rfl:=retE h
    exact fin (ok X) 1 (bT 3 (.i (v1.1.Procs.length:Int)::.b true::.b true::bF 51 [])) (pR 3 k3 (pA (lm z0x v1.1.Procs) (pA k3 (pA k3 (pR 8 k4 (pR 43 ff pT)))))) (by kernel_rfl)
  ·obtain rfl:=retE h
   exact fin (ok X) 1 (bF 56 []) (pR 5 k3 (pR 51 ff pT)) (by kernel_rfl)
 ·obtain rfl:=retE h
  exact fin (ok X) 1 [] pT (by kernel_rfl)
theorem z1x {a0:z01} {a1:ByteArray} {r:Bool} (h:z0l a0 a1=some r):Cs Tryz.prog (GX X) 26 [xP 0 0,xS a1] [oB 89 (bs (z0c a0))] (z1q r) (z1r a0 r):=by
 refine fnT (cx:=cx X) Tryz.f26 Tryz.call26 Tryz.func26 (by kernel_rfl) ?_
 unfold z0l at h
 rcases iteE h with ⟨k1,h⟩|⟨k1,h⟩
 ·rcases iteE h with ⟨k2,h⟩|⟨k2,h⟩
  ·obtain ⟨v1,k3,h⟩:=z07 h
   rcases iteE h with ⟨k4,h⟩|⟨k4,h⟩
   ·obtain rfl:=retE h
    exact fin (ok X) 5 (.o [0,1,2,3,4,5,6,7,8,9,10,11,12,13,14,15,16,17,18,19,20,21,22,23,24,25,26,27,28,29,30,31,32,33,34,35,36,37,38,39,40,41,42,43,44,45,46]::bT 9 (.i (a0.L.length:Int)::bT 11 (.e (z0v v1)::bT 14 (.e (z0v v1)::bT 4 [])))) (pR 9 k1 (pA (lm z0v a0.L) (pA k1 (pA k1 (pR 9 k2 (pA (ixm z0v k3) (pR 5 k2 (pR 9 k4 (pA (ixm z0v k3) (pR 4 k4 pT)))))))))) (by kernel_rfl)
   ·obtain rfl:=retE h
    exact fin (ok X) 5 (.o [0,1,2,3,4,5,6,7,8,9,10,11,12,13,14,15,16,17,18,19,20,21,22,23,24,25,26,27,28,29,30,31,32,33,34,35,36,37,38,39,40,41,42,43,44,45,46]::bT 9 (.i (a0.L.length:Int)::bT 11 (.e (z0v v1)::bT 5 (bF 13 [])))) (pR 9 k1 (pA (lm z0v a0.L) (pA k1 (pA k1 (pR 9 k2 (pA (ixm z0v k3) (pR 5 k2 (pR 13 k4 pT)))))))) (by kernel_rfl)
  ·obtain rfl:=retE h
   exact fin (ok X) 5 (.o [0,1,2,3,4,5,6,7,8,9,10,11,12,13,14,15,16,17,18,19,20,21,22,23,24,25,26,27,28,29,30,31,32,33,34,35,36,37,38,39,40,41,42,43,44,45,46]::bT 9 (.i (a0.L.length:Int)::.b true::.b true::bF 27 [])) (pR 9 k1 (pA (lm z0v a0.L) (pA k1 (pA k1 (pR 14 k2 (pR 13 ff pT)))))) (by kernel_rfl)
 ·obtain rfl:=retE h
  exact fin (ok X) 5 (.o [0,1,2,3,4,5,6,7,8,9,10,11,12,13,14,15,16,17,18,19,20,21,22,23,24,25,26,27,28,29,30,31,32,33,34,35,36,37,38,39,40,41,42,43,44,45,46]::bF 38 []) (pR 11 k1 (pR 27 ff pT)) (by kernel_rfl)
theorem z67 {a0:z01} {a1:Int} {r:z01} (h:z3o a0 a1=some r):Cs Tryz.prog (GX X) 32 [xP 0 0,xI a1] [oB 89 (bs (z0c a0))] (z5l r) (z5m r):=by
 refine fnT (cx:=cx X) Tryz.f32 Tryz.call32 Tryz.func32 (by kernel_rfl) ?_
 unfold z3o at h
 rcases iteE h with ⟨k1,h⟩|⟨k1,h⟩
 ·obtain rfl:=retE h
  exact fin (ok X) 5 [.b true] (pA k1 pT) (by kernel_rfl)
 ·refine adv (ok X) 9 [.b false,.o [0,1,2,3,4,5,6,7,8,9],.i (a0.L.length:Int)] (pA k1 (pA (lm z0v a0.L) pT)) (by kernel_rfl) ?_
  rcases iteE h with ⟨k2,h⟩|⟨k2,h⟩
  ·obtain ⟨v1,k3,h⟩:=z07 h
   obtain rfl:=retE h
   exact fin (ok X) 2 [.b true,.o [0,1,2,3,4,5,6,7,8,9,10,11,12,13,14],.e (z0v v1)] (pA k2 (pA (ixm z0v k3) pT)) (by kernel_rfl)
  ·obtain rfl:=retE h
   exact fin (ok X) 2 [.b false] (pA k2 pT) (by kernel_rfl)
theorem z30 {a0:z01} {r:(z01 × ByteArray)} (h:z0k a0=some r):Cs Tryz.prog (GX X) 28 [xP 0 0] [oB 89 (bs (z0c a0))] (z2h r) (z2i r):=by
 refine fnT (cx:=cx X) Tryz.f28 Tryz.call28 Tryz.func28 (by kernel_rfl) ?_
 unfold z0k at h
 refine adv (ok X) 4 [] pT (by kernel_rfl) ?_
 refine jn (ok X) 1 (fun (j1:Bool)=>⟨55,1,[(0,[xP 0 0]),(33,[xB j1])],[oB 89 (bs (z0c a0))]⟩) h (fun j1 h=>?_) (fun j1 h=>?_)
 ·rcases iteE h with ⟨k1,h⟩|⟨k1,h⟩
  ·obtain rfl:=retE h
   exact fin (ok X) 1 (.o [0,1,2,3,4,5,6,7,8,9,10,11,12,13,14,15,16,17,18,19,20,21,22,23,24,25,26,27,28,29,30]::bT 24 []) (pR 11 k1 (pR 13 tt pT)) (by kernel_rfl)
  ·rcases iteE h with ⟨k2,h⟩|⟨k2,h⟩
   ·obtain rfl:=retE h
    exact fin (ok X) 1 (.o [0,1,2,3,4,5,6,7,8,9,10,11,12,13,14,15,16,17,18,19,20,21,22,23,24,25,26,27,28,29,30]::bF 9 (.i (a0.L.length:Int)::.b false::.b false::bT 13 [])) (pR 9 k1 (pA (lm z0v a0.L) (pA k1 (pA k1 (pR 13 k2 pT))))) (by kernel_rfl)
   ·obtain ⟨v1,k3,h⟩:=z07 h
    obtain rfl:=retE h
    exact fin (ok X) 1 (.o [0,1,2,3,4,5,6,7,8,9,10,11,12,13,14,15,16,17,18,19,20,21,22,23,24,25,26,27,28,29,30]::bF 9 (.i (a0.L.length:Int)::bF 11 (.e (z0v v1)::bF 4 []))) (pR 9 k1 (pA (lm z0v a0.L) (pA k1 (pA k1 (pR 9 k2 (pA (ixm z0v k3) (pR 4 k2 pT))))))) (by kernel_rfl)
 ·rcases iteE h with ⟨k4,h⟩|⟨k4,h⟩
  ·obtain ⟨v2,k5,h⟩:=z07 h
   obtain rfl:=retE h
   exact fin (ok X) 6 [.b true,.s (z5l v2) (z5m v2)] (pA k4 (pA (z67 (X:=X) k5) pT)) (by kernel_rfl)
  ·obtain ⟨v3,k6,h⟩:=z07 h
   obtain rfl:=retE h
   exact fin (ok X) 7 [.b false,.o [0,1,2,3,4,5,6,7,8,9,10,11,12],.e (z0v v3)] (pA k4 (pA (ixm z0v k6) pT)) (by kernel_rfl)
theorem z9a {a0:z01} {r:(z01 × Int)} (h:z2y a0=some r):Cs Tryz.prog (GX X) 30 [xP 0 0] [oB 89 (bs (z0c a0))] (z81 r) (z82 r):=by
 refine fnT (cx:=cx X) Tryz.f30 Tryz.call30 Tryz.func30 (by kernel_rfl) ?_
 unfold z2y at h
 refine adv (ok X) 4 [] pT (by kernel_rfl) ?_
 refine jn (ok X) 1 (fun (j1:Bool)=>⟨55,1,[(0,[xP 0 0]),(33,[xB j1])],[oB 89 (bs (z0c a0))]⟩) h (fun j1 h=>?_) (fun j1 h=>?_)
 ·rcases iteE h with ⟨k1,h⟩|⟨k1,h⟩
  ·obtain rfl:=retE h
   exact fin (ok X) 1 (.o [0,1,2,3,4,5,6,7,8,9,10,11,12,13,14,15,16,17,18,19,20,21,22,23,24,25,26,27,28,29,30]::bT 24 []) (pR 11 k1 (pR 13 tt pT)) (by kernel_rfl)
  ·rcases iteE h with ⟨k2,h⟩|⟨k2,h⟩
   ·obtain rfl:=retE h
    exact fin (ok X) 1 (.o [0,1,2,3,4,5,6,7,8,9,10,11,12,13,14,15,16,17,18,19,20,21,22,23,24,25,26,27,28,29,30]::bF 9 (.i (a0.L.length:Int)::.b false::.b false::bT 13 [])) (pR 9 k1 (pA (lm z0v a0.L) (pA k1 (pA k1 (pR 13 k2 pT))))) (by kernel_rfl)
   ·obtain ⟨v1,k3,h⟩:=z07 h
    obtain rfl:=retE h
    exact fin (ok X) 1 (.o [0,1,2,3,4,5,6,7,8,9,10,11,12,13,14,15,16,17,18,19,20,21,22,23,24,25,26,27,28,29,30]::bF 9 (.i (a0.L.length:Int)::bF 11 (.e (z0v v1)::bF 4 []))) (pR 9 k1 (pA (lm z0v a0.L) (pA k1 (pA k1 (pR 9 k2 (pA (ixm z0v k3) (pR 4 k2 pT))))))) (by kernel_rfl)
 ·rcases iteE h with ⟨k4,h⟩|⟨k4,h⟩
  ·obtain ⟨v2,k5,h⟩:=z07 h
   obtain rfl:=retE h
   exact fin (ok X) 6 [.b true,.s (z5l v2) (z5m v2)] (pA k4 (pA (z67 (X:=X) k5) pT)) (by kernel_rfl)
  ·obtain ⟨v3,k6,h⟩:=z07 h
   obtain rfl:=retE h
   exact fin (ok X) 7 [.b false,.o [0,1,2,3,4,5,6,7,8,9,10,11,12],.e (z0v v3)] (pA k4 (pA (ixm z0v k6) pT)) (by kernel_rfl)
theorem z1d {a0:z01} {a1:ByteArray} {r:z01} (h:z0a a0 a1=some r):Cs Tryz.prog (GX X) 29 [xP 0 0,xS a1] [oB 89 (bs (z0c a0))] (z19 r) (z1a r):=by
 refine fnT (cx:=cx X) Tryz.f29 Tryz.call29 Tryz.func29 (by kernel_rfl) ?_
 unfold z0a at h
 obtain ⟨v1,k1,h⟩:=z07 h
 refine adv (ok X) 3 [.s (z1q v1) (z1r a0 v1)] (pA (z1x (X:=X) k1) pT) (by kernel_rfl) ?_
 rcases iteE h with ⟨k2,h⟩|⟨k2,h⟩
 ·obtain ⟨v2,k3,h⟩:=z07 h
  obtain rfl:=retE h
  exact fin (ok X) 4 [.b true,.s (z5l v2) (z5m v2)] (pA k2 (pA (z67 (X:=X) k3) pT)) (by kernel_rfl)
 ·obtain rfl:=retE h
  exact fin (ok X) 3 [.b false] (pA k2 pT) (by kernel_rfl)
theorem zin {a0:z01} {r:(z01 × z3l)} (h:z7a a0=some r):Cs Tryz.prog (GX X) 27 [xP 0 0] [oB 89 (bs (z0c a0))] (zal r) (zam r):=by
 refine fnT (cx:=cx X) Tryz.f27 Tryz.call27 Tryz.func27 (by kernel_rfl) ?_
 unfold z7a at h
 obtain ⟨v1,k1,h⟩:=z07 h
 refine adv (ok X) 9 [.s (z2h v1) (z2i v1)] (pA (z30 (X:=X) k1) pT) (by kernel_rfl) ?_
 refine lp (ok X) (z49 v1) (fun (x1:(Int × Int))=>⟨78,1,[(0,[xP 0 0]),(2,[xP 1 0]),(3,[xP 2 0]),(4,[xL (List.map z1g [(ByteArray.mk #[98,108,111,99,107]),(ByteArray.mk #[100,114,111,112]),(ByteArray.mk #[108,111,115,115,121])])]),(5,[xI x1.1])],[oB 89 (bs (z0c v1.1)),oB 90 [.pv (.str (ByteArray.mk #[])),.pv (.int .i64 0),.pv (.int .i64 0),.pv (.str (ByteArray.mk #[])),.pv (.str (ByteArray.mk #[])),.emp],oB 90 [.pv (.str v1.2),.pv (.int .i64 x1.2),.pv (.int .i64 0),.pv (.str (ByteArray.mk #[])),.pv (.str (ByteArray.mk #[])),.emp]]⟩) (fun (j1:Int)=>⟨78,1,[(0,[xP 0 0]),(2,[xP 1 0]),(3,[xP 2 0])],[oB 89 (bs (z0c v1.1)),oB 90 [.pv (.str (ByteArray.mk #[])),.pv (.int .i64 0),.pv (.int .i64 0),.pv (.str (ByteArray.mk #[])),.pv (.str (ByteArray.mk #[])),.emp],oB 90 [.pv (.str v1.2),.pv (.int .i64 j1),.pv (.int .i64 0),.pv (.str (ByteArray.mk #[])),.pv (.str (ByteArray.mk #[])),.emp]]⟩) zds (0,(-1)) (fun _=>⟨_,_,_,_,rfl⟩) h (by kernel_rfl) (fun x1 o h=>?_) (fun r' h=>?_) (fun j1 h=>?_)
 ·unfold z49 at h
  rcases iteE h with ⟨k2,h⟩|⟨k2,h⟩
  ·refine adv (ok X) 6 [.b true] (pA k2 pT) (by kernel_rfl) ?_
   refine jn (ok X) 1 (fun (j2:Int)=>⟨78,1,[(0,[xP 0 0]),(2,[xP 1 0]),(3,[xP 2 0]),(4,[xL (List.map z1g [(ByteArray.mk #[98,108,111,99,107]),(ByteArray.mk #[100,114,111,112]),(ByteArray.mk #[108,111,115,115,121])])]),(5,[xI x1.1])],[oB 89 (bs (z0c v1.1)),oB 90 [.pv (.str (ByteArray.mk #[])),.pv (.int .i64 0),.pv (.int .i64 0),.pv (.str (ByteArray.mk #[])),.pv (.str (ByteArray.mk #[])),.emp],oB 90 [.pv (.str v1.2),.pv (.int .i64 j2),.pv (.int .i64 0),.pv (.str (ByteArray.mk #[])),.pv (.str (ByteArray.mk #[])),.emp]]⟩) h (fun j2 h=>?_) (fun j2 h=>?_)
   ·obtain ⟨v2,k3,h⟩:=z07 h
    obtain ⟨v3,k4,h⟩:=z07 h
    refine adv (ok X) 3 [.e [.str v2],.s (z1q v3) (z1r v1.1 v3)] (pA (ixm z1g k3) (pA (z1x (X:=X) k4) pT)) (by kernel_rfl) ?_
    rcases iteE h with ⟨k5,h⟩|⟨k5,h⟩
    ·obtain rfl:=retE h
     exact fin (ok X) 3 [.b true] (pA k5 pT) (by kernel_rfl)
    ·obtain rfl:=retE h
     exact fin (ok X) 3 [.b false] (pA k5 pT) (by kernel_rfl)
   ·obtain rfl:=retE h
    exact fin (ok X) 1 [] pT (by kernel_rfl)
  ·obtain rfl:=retE h
   exact fin (ok X) 5 [.b false] (pA k2 pT) (by kernel_rfl)
 ·cases h
 ·rcases iteE h with ⟨k6,h⟩|⟨k6,h⟩
  ·obtain ⟨v4,k7,h⟩:=z07 h
   obtain rfl:=retE h
   exact fin (ok X) 9 [.b true,.s (z5l v4) (z5m v4)] (pA k6 (pA (z67 (X:=X) k7) pT)) (by kernel_rfl)
  ·obtain ⟨v5,k8,h⟩:=z07 h
   obtain ⟨v6,k9,h⟩:=z07 h
   obtain ⟨v7,k10,h⟩:=z07 h
   obtain ⟨v8,k11,h⟩:=z07 h
   obtain ⟨v9,k12,h⟩:=z07 h
   obtain ⟨v10,k13,h⟩:=z07 h
   obtain ⟨v11,k14,h⟩:=z07 h
   obtain ⟨v12,k15,h⟩:=z07 h
   refine adv (ok X) 22 [.b false,.s (z81 v5) (z82 v5),.s (z19 v6) (z1a v6),.s (z2h v7) (z2i v7),.s (z19 v8) (z1a v8),.s (z2h v9) (z2i v9),.s (z19 v10) (z1a v10),.o [0,1,2,3,4,5,6,7],.s (z2h v11) (z2i v11),.l (List.map z1g v12)] (pA k6 (pA (z9a (X:=X) k8) (pA (z1d (X:=X) k9) (pA (z30 (X:=X) k10) (pA (z1d (X:=X) k11) (pA (z30 (X:=X) k12) (pA (z1d (X:=X) k13) (pA (z30 (X:=X) k14) (pA (apm (L:=[]) (M:=[v11.2]) z1t k15) pT))))))))) (by kernel_rfl) ?_
   refine lp (ok X) (z2z) (fun (x3:((List z0r) × Int × Int × Int × Int × (List ByteArray)))=>⟨78,1,[(0,[xP 0 0]),(2,[xP 1 0]),(3,[xP 2 0])],[oB 89 (bs (z0c (z01.mk x3.1 x3.2.1 x3.2.2.1 x3.2.2.2.1 x3.2.2.2.2.1))),oB 90 [.pv (.str (ByteArray.mk #[])),.pv (.int .i64 0),.pv (.int .i64 0),.pv (.str (ByteArray.mk #[])),.pv (.str (ByteArray.mk #[])),.emp],oB 90 [.pv (.str v1.2),.pv (.int .i64 j1),.pv (.int .i64 v5.2),.pv (.str v7.2),.pv (.str v9.2),.row 3],oR true 9 1 (List.map z1g x3.2.2.2.2.2)]⟩) (fun (j3:((List z0r) × Int × Int × Int × Int × (List ByteArray)))=>⟨78,1,[(0,[xP 0 0]),(2,[xP 1 0]),(3,[xP 2 0])],[oB 89 (bs (z0c (z01.mk j3.1 j3.2.1 j3.2.2.1 j3.2.2.2.1 j3.2.2.2.2.1))),oB 90 [.pv (.str (ByteArray.mk #[])),.pv (.int .i64 0),.pv (.int .i64 0),.pv (.str (ByteArray.mk #[])),.pv (.str (ByteArray.mk #[])),.emp],oB 90 [.pv (.str v1.2),.pv (.int .i64 j1),.pv (.int .i64 v5.2),.pv (.str v7.2),.pv (.str v9.2),.row 3],oR true 9 1 (List.map z1g j3.2.2.2.2.2)]⟩) zds (v11.1.L,v11.1.I,v11.1.End,v11.1.E,v11.1.At,v12) (fun _=>⟨_,_,_,_,rfl⟩) h (by kernel_rfl) (fun x3 o h=>?_) (fun r' h=>?_) (fun j3 h=>?_)
   ·unfold z2z at h
    obtain ⟨v13,k16,h⟩:=z07 h
    refine adv (ok X) 3 [.s (z1q v13) (z1r (z01.mk x3.1 x3.2.1 x3.2.2.1 x3.2.2.2.1 x3.2.2.2.2.1) v13)] (pA (z1x (X:=X) k16) pT) (by kernel_rfl) ?_
    rcases iteE h with ⟨k17,h⟩|⟨k17,h⟩
    ·obtain ⟨v14,k18,h⟩:=z07 h
     obtain ⟨v15,k19,h⟩:=z07 h
     obtain rfl:=retE h
     exact fin (ok X) 7 [.b true,.o [0,1,2,3,4,5,6,7],.s (z2h v14) (z2i v14),.l (List.map z1g v15)] (pA k17 (pA (z30 (X:=X) k18) (pA (apm (L:=x3.2.2.2.2.2) (M:=[v14.2]) z1t k19) pT))) (by kernel_rfl)
    ·obtain rfl:=retE h
     exact fin (ok X) 2 [.b false] (pA k17 pT) (by kernel_rfl)
   ·cases h
   ·obtain ⟨v16,k20,h⟩:=z07 h
    obtain ⟨v17,k21,h⟩:=z07 h
    obtain rfl:=retE h
    exact fin (ok X) 7 [.s (z19 v16) (z1a v16),.s (z19 v17) (z1a v17)] (pA (z1d (X:=X) k20) (pA (z1d (X:=X) k21) pT)) (by kernel_rfl)
theorem zld {n:Nat} (ih_r03_Reader_expr:∀ (a0:z01) (a1:Int) (r:(z01 × z04)),z1w n a0 a1=some r→Cs Tryz.prog (GX X) 68 [xP 0 0,xI a1] [oB 89 (bs (z0c a0))] (z4k r) (z4l r)) (ih_r03_Reader_chain:∀ (a0:z01) (a1:Int) (a2:(List ByteArray)) (a3:Int) (r:(z01 × z04)),z14 n a0 a1 a2 a3=some r→Cs Tryz.prog (GX X) 100 [xP 0 0,xI a1,xL (List.map z1g a2),xI a3] [oB 89 (bs (z0c a0))] (z54 r) (z55 r)) (ih_r03_Reader_factor:∀ (a0:z01) (a1:Int) (r:(z01 × z04)),z0q n a0 a1=some r→Cs Tryz.prog (GX X) 123 [xP 0 0,xI a1] [oB 89 (bs (z0c a0))] (z5c r) (z5d r)) (a0:z01) (a1:Int) (r:(z01 × z04)) (h:z1w (n+1) a0 a1=some r):Cs Tryz.prog (GX X) 68 [xP 0 0,xI a1] [oB 89 (bs (z0c a0))] (z4k r) (z4l r):=by
 refine fnT (cx:=cx X) Tryz.f68 Tryz.call68 Tryz.func68 (by kernel_rfl) ?_
 rw [z1w] at h
 obtain ⟨v1,k1,h⟩:=z07 h
 obtain rfl:=retE h
 exact fin (ok X) 5 [.s (z54 v1) (z55 v1)] (pA (ih_r03_Reader_chain _ _ _ _ _ k1) pT) (by kernel_rfl)
theorem zki {n:Nat} (ih_r03_Reader_expr:∀ (a0:z01) (a1:Int) (r:(z01 × z04)),z1w n a0 a1=some r→Cs Tryz.prog (GX X) 68 [xP 0 0,xI a1] [oB 89 (bs (z0c a0))] (z4k r) (z4l r)) (ih_r03_Reader_chain:∀ (a0:z01) (a1:Int) (a2:(List ByteArray)) (a3:Int) (r:(z01 × z04)),z14 n a0 a1 a2 a3=some r→Cs Tryz.prog (GX X) 100 [xP 0 0,xI a1,xL (List.map z1g a2),xI a3] [oB 89 (bs (z0c a0))] (z54 r) (z55 r)) (ih_r03_Reader_factor:∀ (a0:z01) (a1:Int) (r:(z01 × z04)),z0q n a0 a1=some r→Cs Tryz.prog (GX X) 123 [xP 0 0,xI a1] [oB 89 (bs (z0c a0))] (z5c r) (z5d r)) (a0:z01) (a1:Int) (a2:(List ByteArray)) (a3:Int) (r:(z01 × z04)) (h:z14 (n+1) a0 a1 a2 a3=some r):Cs Tryz.prog (GX X) 100 [xP 0 0,xI a1,xL (List.map z1g a2),xI a3] [oB 89 (bs (z0c a0))] (z54 r) (z55 r):=by
 refine fnT (cx:=cx X) Tryz.f100 Tryz.call100 Tryz.func100 (by kernel_rfl) ?_
 rw [z14] at h
 rcases iteE h with ⟨k1,h⟩|⟨k1,h⟩
 ·obtain ⟨v1,k2,h⟩:=z07 h
  refine adv (ok X) 10 [.b true,.s (z5c v1) (z5d v1)] (pA k1 (pA (ih_r03_Reader_factor _ _ _ k2) pT)) (by kernel_rfl) ?_
  refine lp (ok X) (z6s (z1w n) (z14 n) (z0q n) a1 a2 a3) (fun (x1:((List z0r) × Int × Int × Int × Int × Int × Int × ByteArray × (List z04)))=>⟨66,1,[(0,[xP 0 0]),(1,[xI a1]),(2,[xL (List.map z1g a2)]),(3,[xI a3]),(8,[xP 1 0]),(9,[xP 2 0])],[oB 89 (bs (z0c (z01.mk x1.1 x1.2.1 x1.2.2.1 x1.2.2.2.1 x1.2.2.2.2.1))),oB 43 [.pv (.int .i64 0),.pv (.int .i64 0),.pv (.str (ByteArray.mk #[])),.emp],oB 43 (bs (z0f (z04.mk x1.2.2.2.2.2.1 x1.2.2.2.2.2.2.1 x1.2.2.2.2.2.2.2.1 x1.2.2.2.2.2.2.2.2)))]⟩) (fun (j1:((List z0r) × Int × Int × Int × Int × Int × Int × ByteArray × (List z04)))=>⟨66,1,[(8,[xP 1 0]),(9,[xP 2 0])],[oB 89 (bs (z0c (z01.mk j1.1 j1.2.1 j1.2.2.1 j1.2.2.2.1 j1.2.2.2.2.1))),oB 43 [.pv (.int .i64 0),.pv (.int .i64 0),.pv (.str (ByteArray.mk #[])),.emp],oB 43 (bs (z0f (z04.mk j1.2.2.2.2.2.1 j1.2.2.2.2.2.2.1 j1.2.2.2.2.2.2.2.1 j1.2.2.2.2.2.2.2.2)))]⟩) z9m (v1.1.L,v1.1.I,v1.1.End,v1.1.E,v1.1.At,v1.2.Kind,v1.2.Num,v1.2.Name,v1.2.Kids) (fun _=>⟨_,_,_,_,rfl⟩) h (by kernel_rfl) (fun x1 o h=>?_) (fun r' h=>?_) (fun j1 h=>?_)
  ·unfold z6s at h
   rcases iteE h with ⟨k3,h⟩|⟨k3,h⟩
   ·refine adv (ok X) 11 [.b true] (pA k3 pT) (by kernel_rfl) ?_
    refine lp (ok X) (z6r (z1w n) (z14 n) (z0q n) a2 x1) (fun (x2:(Int × Int))=>⟨66,1,[(0,[xP 0 0]),(1,[xI a1]),(2,[xL (List.map z1g a2)]),(3,[xI a3]),(8,[xP 1 0]),(9,[xP 2 0]),(10,[xI x2.1]),(11,[xI x2.2])],[oB 89 (bs (z0c (z01.mk x1.1 x1.2.1 x1.2.2.1 x1.2.2.2.1 x1.2.2.2.2.1))),oB 43 [.pv (.int .i64 0),.pv (.int .i64 0),.pv (.str (ByteArray.mk #[])),.emp],oB 43 (bs (z0f (z04.mk x1.2.2.2.2.2.1 x1.2.2.2.2.2.2.1 x1.2.2.2.2.2.2.2.1 x1.2.2.2.2.2.2.2.2)))]⟩) (fun (j2:Int)=>⟨66,1,[(0,[xP 0 0]),(1,[xI a1]),(2,[xL (List.map z1g a2)]),(3,[xI a3]),(8,[xP 1 0]),(9,[xP 2 0]),(10,[xI j2])],[oB 89 (bs (z0c (z01.mk x1.1 x1.2.1 x1.2.2.1 x1.2.2.2.1 x1.2.2.2.2.1))),oB 43 [.pv (.int .i64 0),.pv (.int .i64 0),.pv (.str (ByteArray.mk #[])),.emp],oB 43 (bs (z0f (z04.mk x1.2.2.2.2.2.1 x1.2.2.2.2.2.2.1 x1.2.2.2.2.2.2.2.1 x1.2.2.2.2.2.2.2.2)))]⟩) z9m ((-1),0) (fun _=>⟨_,_,_,_,rfl⟩) h (by kernel_rfl) (fun x2 o h=>?_) (fun r' h=>?_) (fun j2 h=>?_)
    ·unfold z6r at h
     refine adv (ok X) 3 [.i (a2.length:Int)] (pA (lm z1g a2) pT) (by kernel_rfl) ?_
     rcases iteE h with ⟨k4,h⟩|⟨k4,h⟩
     ·refine adv (ok X) 3 [.b true] (pA k4 pT) (by kernel_rfl) ?_
      refine jn (ok X) 1 (fun (j3:Int)=>⟨66,1,[(0,[xP 0 0]),(1,[xI a1]),(2,[xL (List.map z1g a2)]),(3,[xI a3]),(8,[xP 1 0]),(9,[xP 2 0]),(10,[xI j3]),(11,[xI x2.2])],[oB 89 (bs (z0c (z01.mk x1.1 x1.2.1 x1.2.2.1 x1.2.2.2.1 x1.2.2.2.2.1))),oB 43 [.pv (.int .i64 0),.pv (.int .i64 0),.pv (.str (ByteArray.mk #[])),.emp],oB 43 (bs (z0f (z04.mk x1.2.2.2.2.2.1 x1.2.2.2.2.2.2.1 x1.2.2.2.2.2.2.2.1 x1.2.2.2.2.2.2.2.2)))]⟩) h (fun j3 h=>?_) (fun j3 h=>?_)
      ·obtain ⟨v2,k5,h⟩:=z07 h
       obtain ⟨v3,k6,h⟩:=z07 h
       refine adv (ok X) 3 [.e [.str v2],.s (z1q v3) (z1r (z01.mk x1.1 x1.2.1 x1.2.2.1 x1.2.2.2.1 x1.2.2.2.2.1) v3)] (pA (ixm z1g k5) (pA (z1x (X:=X) k6) pT)) (by kernel_rfl) ?_
       rcases iteE h with ⟨k7,h⟩|⟨k7,h⟩
       ·obtain rfl:=retE h
        exact fin (ok X) 3 [.b true] (pA k7 pT) (by kernel_rfl)
       ·obtain rfl:=retE h
        exact fin (ok X) 3 [.b false] (pA k7 pT) (by kernel_rfl)
      ·obtain rfl:=retE h
       exact fin (ok X) 1 [] pT (by kernel_rfl)
     ·obtain rfl:=retE h
      exact fin (ok X) 2 [.b false] (pA k4 pT) (by kernel_rfl)
    ·cases h
    ·rcases iteE h with ⟨k8,h⟩|⟨k8,h⟩
     ·obtain rfl:=retE h
      exact fin (ok X) 5 [.b true] (pA k8 pT) (by kernel_rfl)
     ·obtain ⟨v4,k9,h⟩:=z07 h
      obtain rfl:=retE h
      exact fin (ok X) 16 [.b false,.b true,.s (z5c v4) (z5d v4),.bl (List.map z1l [(z04.mk x1.2.2.2.2.2.1 x1.2.2.2.2.2.2.1 x1.2.2.2.2.2.2.2.1 x1.2.2.2.2.2.2.2.2),v4.2])] (pA k8 (pA k1 (pA (ih_r03_Reader_factor _ _ _ k9) (pA (blc (e:=z1l) (x:=(z04.mk x1.2.2.2.2.2.1 x1.2.2.2.2.2.2.1 x1.2.2.2.2.2.2.2.1 x1.2.2.2.2.2.2.2.2)) (z26 _).symm (blc (e:=z1l) (x:=v4.2) (z26 _).symm (bl0 z1l))) pT)))) (by kernel_rfl)
   ·obtain rfl:=retE h
    exact fin (ok X) 5 [.b false] (pA k3 pT) (by kernel_rfl)
  ·cases h
  ·obtain rfl:=retE h
   exact fin (ok X) 3 [] pT (by kernel_rfl)
 ·obtain ⟨v5,k10,h⟩:=z07 h
  refine adv (ok X) 10 [.b false,.s (z54 v5) (z55 v5)] (pA k1 (pA (ih_r03_Reader_chain _ _ _ _ _ k10) pT)) (by kernel_rfl) ?_
  refine lp (ok X) (z6u (z1w n) (z14 n) (z0q n) a1 a2 a3) (fun (x4:((List z0r) × Int × Int × Int × Int × Int × Int × ByteArray × (List z04)))=>⟨66,1,[(0,[xP 0 0]),(1,[xI a1]),(2,[xL (List.map z1g a2)]),(3,[xI a3]),(8,[xP 1 0]),(9,[xP 2 0])],[oB 89 (bs (z0c (z01.mk x4.1 x4.2.1 x4.2.2.1 x4.2.2.2.1 x4.2.2.2.2.1))),oB 43 [.pv (.int .i64 0),.pv (.int .i64 0),.pv (.str (ByteArray.mk #[])),.emp],oB 43 (bs (z0f (z04.mk x4.2.2.2.2.2.1 x4.2.2.2.2.2.2.1 x4.2.2.2.2.2.2.2.1 x4.2.2.2.2.2.2.2.2)))]⟩) (fun (j4:((List z0r) × Int × Int × Int × Int × Int × Int × ByteArray × (List z04)))=>⟨66,1,[(8,[xP 1 0]),(9,[xP 2 0])],[oB 89 (bs (z0c (z01.mk j4.1 j4.2.1 j4.2.2.1 j4.2.2.2.1 j4.2.2.2.2.1))),oB 43 [.pv (.int .i64 0),.pv (.int .i64 0),.pv (.str (ByteArray.mk #[])),.emp],oB 43 (bs (z0f (z04.mk j4.2.2.2.2.2.1 j4.2.2.2.2.2.2.1 j4.2.2.2.2.2.2.2.1 j4.2.2.2.2.2.2.2.2)))]⟩) z9m (v5.1.L,v5.1.I,v5.1.End,v5.1.E,v5.1.At,v5.2.Kind,v5.2.Num,v5.2.Name,v5.2.Kids) (fun _=>⟨_,_,_,_,rfl⟩) h (by kernel_rfl) (fun x4 o h=>?_) (fun r' h=>?_) (fun j4 h=>?_)
  ·unfold z6u at h
   rcases iteE h with ⟨k11,h⟩|⟨k11,h⟩
   ·refine adv (ok X) 11 [.b true] (pA k11 pT) (by kernel_rfl) ?_
    refine lp (ok X) (z6t (z1w n) (z14 n) (z0q n) a2 x4) (fun (x5:(Int × Int))=>⟨66,1,[(0,[xP 0 0]),(1,[xI a1]),(2,[xL (List.map z1g a2)]),(3,[xI a3]),(8,[xP 1 0]),(9,[xP 2 0]),(10,[xI x5.1]),(11,[xI x5.2])],[oB 89 (bs (z0c (z01.mk x4.1 x4.2.1 x4.2.2.1 x4.2.2.2.1 x4.2.2.2.2.1))),oB 43 [.pv (.int .i64 0),.pv (.int .i64 0),.pv (.str (ByteArray.mk #[])),.emp],oB 43 (bs (z0f (z04.mk x4.2.2.2.2.2.1 x4.2.2.2.2.2.2.1 x4.2.2.2.2.2.2.2.1 x4.2.2.2.2.2.2.2.2)))]⟩) (fun (j5:Int)=>⟨66,1,[(0,[xP 0 0]),(1,[xI a1]),(2,[xL (List.map z1g a2)]),(3,[xI a3]),(8,[xP 1 0]),(9,[xP 2 0]),(10,[xI j5])],[oB 89 (bs (z0c (z01.mk x4.1 x4.2.1 x4.2.2.1 x4.2.2.2.1 x4.2.2.2.2.1))),oB 43 [.pv (.int .i64 0),.pv (.int .i64 0),.pv (.str (ByteArray.mk #[])),.emp],oB 43 (bs (z0f (z04.mk x4.2.2.2.2.2.1 x4.2.2.2.2.2.2.1 x4.2.2.2.2.2.2.2.1 x4.2.2.2.2.2.2.2.2)))]⟩) z9m ((-1),0) (fun _=>⟨_,_,_,_,rfl⟩) h (by kernel_rfl) (fun x5 o h=>?_) (fun r' h=>?_) (fun j5 h=>?_)
    ·unfold z6t at h
     refine adv (ok X) 3 [.i (a2.length:Int)] (pA (lm z1g a2) pT) (by kernel_rfl) ?_
     rcases iteE h with ⟨k12,h⟩|⟨k12,h⟩
     ·refine adv (ok X) 3 [.b true] (pA k12 pT) (by kernel_rfl) ?_
      refine jn (ok X) 1 (fun (j6:Int)=>⟨66,1,[(0,[xP 0 0]),(1,[xI a1]),(2,[xL (List.map z1g a2)]),(3,[xI a3]),(8,[xP 1 0]),(9,[xP 2 0]),(10,[xI j6]),(11,[xI x5.2])],[oB 89 (bs (z0c (z01.mk x4.1 x4.2.1 x4.2.2.1 x4.2.2.2.1 x4.2.2.2.2.1))),oB 43 [.pv (.int .i64 0),.pv (.int .i64 0),.pv (.str (ByteArray.mk #[])),.emp],oB 43 (bs (z0f (z04.mk x4.2.2.2.2.2.1 x4.2.2.2.2.2.2.1 x4.2.2.2.2.2.2.2.1 x4.2.2.2.2.2.2.2.2)))]⟩) h (fun j6 h=>?_) (fun j6 h=>?_)
      ·obtain ⟨v6,k13,h⟩:=z07 h
       obtain ⟨v7,k14,h⟩:=z07 h
       refine adv (ok X) 3 [.e [.str v6],.s (z1q v7) (z1r (z01.mk x4.1 x4.2.1 x4.2.2.1 x4.2.2.2.1 x4.2.2.2.2.1) v7)] (pA (ixm z1g k13) (pA (z1x (X:=X) k14) pT)) (by kernel_rfl) ?_
       rcases iteE h with ⟨k15,h⟩|⟨k15,h⟩
       ·obtain rfl:=retE h
        exact fin (ok X) 3 [.b true] (pA k15 pT) (by kernel_rfl)
       ·obtain rfl:=retE h
        exact fin (ok X) 3 [.b false] (pA k15 pT) (by kernel_rfl)
      ·obtain rfl:=retE h
       exact fin (ok X) 1 [] pT (by kernel_rfl)
     ·obtain rfl:=retE h
      exact fin (ok X) 2 [.b false] (pA k12 pT) (by kernel_rfl)
    ·cases h
    ·rcases iteE h with ⟨k16,h⟩|⟨k16,h⟩
     ·obtain rfl:=retE h
      exact fin (ok X) 5 [.b true] (pA k16 pT) (by kernel_rfl)
     ·obtain ⟨v8,k17,h⟩:=z07 h
      obtain rfl:=retE h
      exact fin (ok X) 16 [.b false,.b false,.s (z54 v8) (z55 v8),.bl (List.map z1l [(z04.mk x4.2.2.2.2.2.1 x4.2.2.2.2.2.2.1 x4.2.2.2.2.2.2.2.1 x4.2.2.2.2.2.2.2.2),v8.2])] (pA k16 (pA k1 (pA (ih_r03_Reader_chain _ _ _ _ _ k17) (pA (blc (e:=z1l) (x:=(z04.mk x4.2.2.2.2.2.1 x4.2.2.2.2.2.2.1 x4.2.2.2.2.2.2.2.1 x4.2.2.2.2.2.2.2.2)) (z26 _).symm (blc (e:=z1l) (x:=v8.2) (z26 _).symm (bl0 z1l))) pT)))) (by kernel_rfl)
   ·obtain rfl:=retE h
    exact fin (ok X) 5 [.b false] (pA k11 pT) (by kernel_rfl)
  ·cases h
  ·obtain rfl:=retE h
   exact fin (ok X) 3 [] pT (by kernel_rfl)
theorem zjt {n:Nat} (ih_r03_Reader_expr:∀ (a0:z01) (a1:Int) (r:(z01 × z04)),z1w n a0 a1=some r→Cs Tryz.prog (GX X) 68 [xP 0 0,xI a1] [oB 89 (bs (z0c a0))] (z4k r) (z4l r)) (ih_r03_Reader_chain:∀ (a0:z01) (a1:Int) (a2:(List ByteArray)) (a3:Int) (r:(z01 × z04)),z14 n a0 a1 a2 a3=some r→Cs Tryz.prog (GX X) 100 [xP 0 0,xI a1,xL (List.map z1g a2),xI a3] [oB 89 (bs (z0c a0))] (z54 r) (z55 r)) (ih_r03_Reader_factor:∀ (a0:z01) (a1:Int) (r:(z01 × z04)),z0q n a0 a1=some r→Cs Tryz.prog (GX X) 123 [xP 0 0,xI a1] [oB 89 (bs (z0c a0))] (z5c r) (z5d r)) (a0:z01) (a1:Int) (r:(z01 × z04)) (h:z0q (n+1) a0 a1=some r):Cs Tryz.prog (GX X) 123 [xP 0 0,xI a1] [oB 89 (bs (z0c a0))] (z5c r) (z5d r):=by
 refine fnT (cx:=cx X) Tryz.f123 Tryz.call123 Tryz.func123 (by kernel_rfl) ?_
 rw [z0q] at h
 refine adv (ok X) 4 [] pT (by kernel_rfl) ?_
 refine jn (ok X) 1 (fun (j1:Bool)=>⟨78,1,[(0,[xP 0 0]),(1,[xI a1]),(4,[xP 1 0]),(12,[xB j1])],[oB 89 (bs (z0c a0)),oB 43 [.pv (.int .i64 0),.pv (.int .i64 0),.pv (.str (ByteArray.mk #[])),.emp]]⟩) h (fun j1 h=>?_) (fun j1 h=>?_)
 ·obtain ⟨v1,k1,h⟩:=z07 h
  rcases iteE h with ⟨k2,h⟩|⟨k2,h⟩
  ·obtain rfl:=retE h
   exact fin (ok X) 1 (.s (z1q v1) (z1r a0 v1)::bT 3 []) (pA (z1x (X:=X) k1) (pR 3 k2 pT)) (by kernel_rfl)
  ·obtain ⟨v2,k3,h⟩:=z07 h
   obtain rfl:=retE h
   exact fin (ok X) 1 [.s (z1q v1) (z1r a0 v1),.b false,.b false,.s (z1q v2) (z1r a0 v2),.b false] (pA (z1x (X:=X) k1) (pA k2 (pA k2 (pA (z1x (X:=X) k3) (pA k2 pT))))) (by kernel_rfl)
 ·rcases iteE h with ⟨k4,h⟩|⟨k4,h⟩
  ·refine adv (ok X) 4 [.b true] (pA k4 pT) (by kernel_rfl) ?_
   rcases iteE h with ⟨k5,h⟩|⟨k5,h⟩
   ·obtain ⟨v3,k6,h⟩:=z07 h
    obtain rfl:=retE h
    exact fin (ok X) 6 [.b true,.s (z5l v3) (z5m v3)] (pA k5 (pA (z67 (X:=X) k6) pT)) (by kernel_rfl)
   ·obtain ⟨v4,k7,h⟩:=z07 h
    refine adv (ok X) 9 [.b false,.s (z1q v4) (z1r a0 v4)] (pA k5 (pA (z1x (X:=X) k7) pT)) (by kernel_rfl) ?_
    rcases iteE h with ⟨k8,h⟩|⟨k8,h⟩
    ·obtain ⟨v5,k9,h⟩:=z07 h
     obtain rfl:=retE h
     exact fin (ok X) 4 [.b true,.s (z5c v5) (z5d v5),.bl (List.map z1l [v5.2])] (pA k8 (pA (ih_r03_Reader_factor _ _ _ k9) (pA (blc (e:=z1l) (x:=v5.2) (z26 _).symm (bl0 z1l)) pT))) (by kernel_rfl)
    ·obtain ⟨v6,k10,h⟩:=z07 h
     obtain ⟨v7,k11,h⟩:=z07 h
     obtain rfl:=retE h
     exact fin (ok X) 9 [.b false,.s (z4k v6) (z4l v6),.s (z19 v7) (z1a v7)] (pA k8 (pA (ih_r03_Reader_expr _ _ _ k10) (pA (z1d (X:=X) k11) pT))) (by kernel_rfl)
  ·refine adv (ok X) 4 [.b false] (pA k4 pT) (by kernel_rfl) ?_
   refine jn (ok X) 1 (fun (j2:Bool)=>⟨78,1,[(0,[xP 0 0]),(4,[xP 1 0]),(71,[xB j2])],[oB 89 (bs (z0c a0)),oB 43 [.pv (.int .i64 0),.pv (.int .i64 0),.pv (.str (ByteArray.mk #[])),.emp]]⟩) h (fun j2 h=>?_) (fun j2 h=>?_)
   ·rcases iteE h with ⟨k12,h⟩|⟨k12,h⟩
    ·rcases iteE h with ⟨k13,h⟩|⟨k13,h⟩
     ·obtain ⟨v8,k14,h⟩:=z07 h
      obtain rfl:=retE h
      exact fin (ok X) 1 (.o [0,1,2,3,4,5,6,7,8,9,10,11,12,13,14,15,16,17,18,19,20,21,22,23,24,25,26,27,28,29,30]::bT 9 (.i (a0.L.length:Int)::bT 11 (.e (z0v v8)::bT 4 []))) (pR 9 k12 (pA (lm z0v a0.L) (pA k12 (pA k12 (pR 9 k13 (pA (ixm z0v k14) (pR 4 k13 pT))))))) (by kernel_rfl)
     ·obtain rfl:=retE h
      exact fin (ok X) 1 (.o [0,1,2,3,4,5,6,7,8,9,10,11,12,13,14,15,16,17,18,19,20,21,22,23,24,25,26,27,28,29,30]::bT 9 (.i (a0.L.length:Int)::.b true::.b true::bF 13 [])) (pR 9 k12 (pA (lm z0v a0.L) (pA k12 (pA k12 (pR 13 k13 pT))))) (by kernel_rfl)
    ·obtain rfl:=retE h
     exact fin (ok X) 1 (.o [0,1,2,3,4,5,6,7,8,9,10,11,12,13,14,15,16,17,18,19,20,21,22,23,24,25,26,27,28,29,30]::bF 24 []) (pR 11 k12 (pR 13 ff pT)) (by kernel_rfl)
   ·rcases iteE h with ⟨k15,h⟩|⟨k15,h⟩
    ·obtain ⟨v9,k16,h⟩:=z07 h
     obtain rfl:=retE h
     exact fin (ok X) 4 [.b true,.s (z81 v9) (z82 v9)] (pA k15 (pA (z9a (X:=X) k16) pT)) (by kernel_rfl)
    ·obtain ⟨v10,k17,h⟩:=z07 h
     obtain rfl:=retE h
     exact fin (ok X) 5 [.b false,.s (z2h v10) (z2i v10)] (pA k15 (pA (z30 (X:=X) k17) pT)) (by kernel_rfl)
theorem zet:∀ n:Nat,(∀ (a0:z01) (a1:Int) (r:(z01 × z04)),z1w n a0 a1=some r→Cs Tryz.prog (GX X) 68 [xP 0 0,xI a1] [oB 89 (bs (z0c a0))] (z4k r) (z4l r))∧(∀ (a0:z01) (a1:Int) (a2:(List ByteArray)) (a3:Int) (r:(z01 × z04)),z14 n a0 a1 a2 a3=some r→Cs Tryz.prog (GX X) 100 [xP 0 0,xI a1,xL (List.map z1g a2),xI a3] [oB 89 (bs (z0c a0))] (z54 r) (z55 r))∧(∀ (a0:z01) (a1:Int) (r:(z01 × z04)),z0q n a0 a1=some r→Cs Tryz.prog (GX X) 123 [xP 0 0,xI a1] [oB 89 (bs (z0c a0))] (z5c r) (z5d r))
 | 0=>⟨(fun _ _ _ h=>by rw [z1w] at h;cases h),(fun _ _ _ _ _ h=>by rw [z14] at h;cases h),(fun _ _ _ h=>by rw [z0q] at h;cases h)⟩
 | n+1=>by
  have ih:=zet n
  exact ⟨zld ih.1 ih.2.1 ih.2.2,zki ih.1 ih.2.1 ih.2.2,zjt ih.1 ih.2.1 ih.2.2⟩
theorem zag {a0:z01} {a1:Int} {r:(z01 × z04)} (h:z5e a0 a1=some r):Cs Tryz.prog (GX X) 68 [xP 0 0,xI a1] [oB 89 (bs (z0c a0))] (z4k r) (z4l r):=by
 obtain ⟨n,hn⟩:=unfE h
 exact (zet n).1 _ _ _ hn
theorem zcx {a0:z01} {r:(z01 × z1k)} (h:z5y a0=some r):Cs Tryz.prog (GX X) 66 [xP 0 0] [oB 89 (bs (z0c a0))] (z8v r) (z8w r):=by
 refine fnT (cx:=cx X) Tryz.f66 Tryz.call66 Tryz.func66 (by kernel_rfl) ?_
 unfold z5y at h
 obtain ⟨v1,k1,h⟩:=z07 h
 obtain ⟨v2,k2,h⟩:=z07 h
 refine adv (ok X) 11 [.s (z19 v1) (z1a v1),.s (z4k v2) (z4l v2)] (pA (z1d (X:=X) k1) (pA (zag (X:=X) k2) pT)) (by kernel_rfl) ?_
 refine lp (ok X) (z6g v2) (fun (x1:(Int × z1k))=>⟨44,1,[(0,[xP 0 0]),(2,[xP 1 0]),(3,[xP 2 0]),(4,[xL (List.map z1g [(ByteArray.mk #[61,61]),(ByteArray.mk #[33,61]),(ByteArray.mk #[60]),(ByteArray.mk #[60,61]),(ByteArray.mk #[62]),(ByteArray.mk #[62,61])])]),(5,[xI x1.1])],[oB 89 (bs (z0c v2.1)),oB 46 [.pv (.int .i64 0),.pv (.int .i64 0),.pv (.int .i64 0),.pv (.str (ByteArray.mk #[])),.emp,.pv (.int .i64 0),.pv (.int .i64 0),.pv (.str (ByteArray.mk #[])),.emp],oB 46 (bs (z73 x1.2))]⟩) (fun (j1:z1k)=>⟨44,1,[(0,[xP 0 0]),(2,[xP 1 0]),(3,[xP 2 0])],[oB 89 (bs (z0c v2.1)),oB 46 [.pv (.int .i64 0),.pv (.int .i64 0),.pv (.int .i64 0),.pv (.str (ByteArray.mk #[])),.emp,.pv (.int .i64 0),.pv (.int .i64 0),.pv (.str (ByteArray.mk #[])),.emp],oB 46 (bs (z73 j1))]⟩) zla (0,(z1k.mk 0 v2.2 (z04.mk 0 0 (ByteArray.mk #[]) []))) (fun _=>⟨_,_,_,_,rfl⟩) h (by kernel_rfl) (fun x1 o h=>?_) (fun r' h=>?_) (fun j1 h=>?_)
 ·unfold z6g at h
  rcases iteE h with ⟨k3,h⟩|⟨k3,h⟩
  ·refine adv (ok X) 6 [.b true] (pA k3 pT) (by kernel_rfl) ?_
   refine jn (ok X) 1 (fun (j2:Int)=>⟨44,1,[(0,[xP 0 0]),(2,[xP 1 0]),(3,[xP 2 0]),(4,[xL (List.map z1g [(ByteArray.mk #[61,61]),(ByteArray.mk #[33,61]),(ByteArray.mk #[60]),(ByteArray.mk #[60,61]),(ByteArray.mk #[62]),(ByteArray.mk #[62,61])])]),(5,[xI x1.1])],[oB 89 (bs (z0c v2.1)),oB 46 [.pv (.int .i64 0),.pv (.int .i64 0),.pv (.int .i64 0),.pv (.str (ByteArray.mk #[])),.emp,.pv (.int .i64 0),.pv (.int .i64 0),.pv (.str (ByteArray.mk #[])),.emp],oB 46 (bs (z73 (z1k.mk j2 x1.2.L x1.2.R)))]⟩) h (fun j2 h=>?_) (fun j2 h=>?_)
   ·obtain ⟨v3,k4,h⟩:=z07 h
    obtain ⟨v4,k5,h⟩:=z07 h
    refine adv (ok X) 3 [.e [.str v3],.s (z1q v4) (z1r v2.1 v4)] (pA (ixm z1g k4) (pA (z1x (X:=X) k5) pT)) (by kernel_rfl) ?_
    rcases iteE h with ⟨k6,h⟩|⟨k6,h⟩
    ·obtain rfl:=retE h
     exact fin (ok X) 3 [.b true] (pA k6 pT) (by kernel_rfl)
    ·obtain rfl:=retE h
     exact fin (ok X) 3 [.b false] (pA k6 pT) (by kernel_rfl)
   ·obtain rfl:=retE h
    exact fin (ok X) 1 [] pT (by kernel_rfl)
  ·obtain rfl:=retE h
   exact fin (ok X) 5 [.b false] (pA k3 pT) (by kernel_rfl)
 ·cases h
 ·rcases iteE h with ⟨k7,h⟩|⟨k7,h⟩
  ·obtain ⟨v5,k8,h⟩:=z07 h
   obtain rfl:=retE h
   exact fin (ok X) 9 [.b true,.s (z5l v5) (z5m v5)] (pA k7 (pA (z67 (X:=X) k8) pT)) (by kernel_rfl)
  ·obtain ⟨v6,k9,h⟩:=z07 h
   obtain ⟨v7,k10,h⟩:=z07 h
   obtain rfl:=retE h
   exact fin (ok X) 14 [.b false,.s (z4k v6) (z4l v6),.s (z19 v7) (z1a v7)] (pA k7 (pA (zag (X:=X) k9) (pA (z1d (X:=X) k10) pT))) (by kernel_rfl)
theorem zkj {n:Nat} (ih_r03_Reader_stmts:∀ (a0:z01) (a1:Int) (r:(z01 × (List z03))),z2j n a0 a1=some r→Cs Tryz.prog (GX X) 31 [xP 0 0,xI a1] [oB 89 (bs (z0c a0))] (z5s r) (z5t r)) (ih_r03_Reader_block:∀ (a0:z01) (a1:Int) (r:(z01 × (List z03))),z1m n a0 a1=some r→Cs Tryz.prog (GX X) 67 [xP 0 0,xI a1] [oB 89 (bs (z0c a0))] (z5u r) (z5v r)) (a0:z01) (a1:Int) (r:(z01 × (List z03))) (h:z2j (n+1) a0 a1=some r):Cs Tryz.prog (GX X) 31 [xP 0 0,xI a1] [oB 89 (bs (z0c a0))] (z5s r) (z5t r):=by
 refine fnT (cx:=cx X) Tryz.f31 Tryz.call31 Tryz.func31 (by kernel_rfl) ?_
 rw [z2j] at h
 refine adv (ok X) 5 [] pT (by kernel_rfl) ?_
 refine lp (ok X) (z3f (z2j n) (z1m n) a1) (fun (x1:((List z0r) × Int × Int × Int × Int × (List z03)))=>⟨218,1,[(0,[xP 0 0]),(1,[xI a1]),(5,[xR 1])],[oB 89 (bs (z0c (z01.mk x1.1 x1.2.1 x1.2.2.1 x1.2.2.2.1 x1.2.2.2.2.1))),oR true 50 19 (List.map z09 x1.2.2.2.2.2)]⟩) (fun (j1:((List z0r) × Int × Int × Int × Int × (List z03)))=>⟨218,1,[(5,[xR 1])],[oB 89 (bs (z0c (z01.mk j1.1 j1.2.1 j1.2.2.1 j1.2.2.2.1 j1.2.2.2.2.1))),oR true 50 19 (List.map z09 j1.2.2.2.2.2)]⟩) zcc (a0.L,a0.I,a0.End,a0.E,a0.At,[]) (fun _=>⟨_,_,_,_,rfl⟩) h (by kernel_rfl) (fun x1 o h=>?_) (fun r' h=>?_) (fun j1 h=>?_)
 ·unfold z3f at h
  rcases iteE h with ⟨k1,h⟩|⟨k1,h⟩
  ·refine adv (ok X) 9 [.b true] (pA k1 pT) (by kernel_rfl) ?_
   refine jr (ok X) 1 (fun (j2:((List z0r) × Int × Int × Int × Int × z03 × (List z2k)))=>⟨218,1,[(0,[xP 0 0]),(1,[xI a1]),(5,[xR 1]),(6,[xP 2 0])],[oB 89 (bs (z0c (z01.mk j2.1 j2.2.1 j2.2.2.1 j2.2.2.2.1 j2.2.2.2.2.1))),oR true 50 19 (List.map z09 x1.2.2.2.2.2),oB 50 [.pv (.int .i64 j2.2.2.2.2.2.1.Kind),.pv (.str j2.2.2.2.2.2.1.Name),.pv (.str j2.2.2.2.2.2.1.Tag),.pv (.int .i64 j2.2.2.2.2.2.1.E.Kind),.pv (.int .i64 j2.2.2.2.2.2.1.E.Num),.pv (.str j2.2.2.2.2.2.1.E.Name),.pv (.sl (List.map z1l j2.2.2.2.2.2.1.E.Kids)),.pv (.int .i64 j2.2.2.2.2.2.1.C.Op),.pv (.int .i64 j2.2.2.2.2.2.1.C.L.Kind),.pv (.int .i64 j2.2.2.2.2.2.1.C.L.Num),.pv (.str j2.2.2.2.2.2.1.C.L.Name),.pv (.sl (List.map z1l j2.2.2.2.2.2.1.C.L.Kids)),.pv (.int .i64 j2.2.2.2.2.2.1.C.R.Kind),.pv (.int .i64 j2.2.2.2.2.2.1.C.R.Num),.pv (.str j2.2.2.2.2.2.1.C.R.Name),.pv (.sl (List.map z1l j2.2.2.2.2.2.1.C.R.Kids)),.pv (.sl (List.map z09 j2.2.2.2.2.2.1.Body)),.pv (.sl (List.map z09 j2.2.2.2.2.2.1.Else)),.row 3],oR true 151 3 (List.map z4o j2.2.2.2.2.2.2)]⟩) zcc (fun _=>⟨_,_,_,_,rfl⟩) h (fun o h=>?_) (fun r' h=>?_) (fun j2 h=>?_)
   ·obtain ⟨v1,k2,h⟩:=z07 h
    refine adv (ok X) 3 [.s (z1q v1) (z1r (z01.mk x1.1 x1.2.1 x1.2.2.1 x1.2.2.2.1 x1.2.2.2.2.1) v1)] (pA (z1x (X:=X) k2) pT) (by kernel_rfl) ?_
    rcases iteE h with ⟨k3,h⟩|⟨k3,h⟩
    ·obtain ⟨v2,k4,h⟩:=z07 h
     obtain ⟨v3,k5,h⟩:=z07 h
     obtain ⟨v4,k6,h⟩:=z07 h
     refine adv (ok X) 9 [.b true,.s (z8v v2) (z8w v2),.s (z5u v3) (z5v v3),.s (z1q v4) (z1r v3.1 v4)] (pA k3 (pA (zcx (X:=X) k4) (pA (ih_r03_Reader_block _ _ _ k5) (pA (z1x (X:=X) k6) pT)))) (by kernel_rfl) ?_
     rcases iteE h with ⟨k7,h⟩|⟨k7,h⟩
     ·obtain ⟨v5,k8,h⟩:=z07 h
      obtain rfl:=retE h
      exact fin (ok X) 5 [.b true,.s (z5u v5) (z5v v5)] (pA k7 (pA (ih_r03_Reader_block _ _ _ k8) pT)) (by kernel_rfl)
     ·obtain rfl:=retE h
      exact fin (ok X) 3 [.b false] (pA k7 pT) (by kernel_rfl)
    ·obtain ⟨v6,k9,h⟩:=z07 h
     refine adv (ok X) 3 [.b false,.s (z1q v6) (z1r (z01.mk x1.1 x1.2.1 x1.2.2.1 x1.2.2.2.1 x1.2.2.2.2.1) v6)] (pA k3 (pA (z1x (X:=X) k9) pT)) (by kernel_rfl) ?_
     rcases iteE h with ⟨k10,h⟩|⟨k10,h⟩
     ·obtain ⟨v7,k11,h⟩:=z07 h
      obtain ⟨v8,k12,h⟩:=z07 h
      obtain rfl:=retE h
      exact fin (ok X) 7 [.b true,.s (z8v v7) (z8w v7),.s (z5u v8) (z5v v8)] (pA k10 (pA (zcx (X:=X) k11) (pA (ih_r03_Reader_block _ _ _ k12) pT))) (by kernel_rfl)
     ·obtain ⟨v9,k13,h⟩:=z07 h
      refine adv (ok X) 3 [.b false,.s (z1q v9) (z1r (z01.mk x1.1 x1.2.1 x1.2.2.1 x1.2.2.2.1 x1.2.2.2.2.1) v9)] (pA k10 (pA (z1x (X:=X) k13) pT)) (by kernel_rfl) ?_
      rcases iteE h with ⟨k14,h⟩|⟨k14,h⟩
      ·obtain ⟨v10,k15,h⟩:=z07 h
       obtain ⟨v11,k16,h⟩:=z07 h
       obtain ⟨v12,k17,h⟩:=z07 h
       obtain ⟨v13,k18,h⟩:=z07 h
       obtain ⟨v14,k19,h⟩:=z07 h
       obtain ⟨v15,k20,h⟩:=z07 h
       obtain ⟨v16,k21,h⟩:=z07 h
       obtain rfl:=retE h
       exact fin (ok X) 17 [.b true,.s (z2h v10) (z2i v10),.s (z19 v11) (z1a v11),.s (z2h v12) (z2i v12),.s (z19 v13) (z1a v13),.s (z4k v14) (z4l v14),.s (z19 v15) (z1a v15),.s (z19 v16) (z1a v16)] (pA k14 (pA (z30 (X:=X) k15) (pA (z1d (X:=X) k16) (pA (z30 (X:=X) k17) (pA (z1d (X:=X) k18) (pA (zag (X:=X) k19) (pA (z1d (X:=X) k20) (pA (z1d (X:=X) k21) pT)))))))) (by kernel_rfl)
      ·obtain ⟨v17,k22,h⟩:=z07 h
       refine adv (ok X) 3 [.b false,.s (z1q v17) (z1r (z01.mk x1.1 x1.2.1 x1.2.2.1 x1.2.2.2.1 x1.2.2.2.2.1) v17)] (pA k14 (pA (z1x (X:=X) k22) pT)) (by kernel_rfl) ?_
       rcases iteE h with ⟨k23,h⟩|⟨k23,h⟩
       ·obtain ⟨v18,k24,h⟩:=z07 h
        obtain ⟨v19,k25,h⟩:=z07 h
        refine adv (ok X) 8 [.b true,.s (z2h v18) (z2i v18),.s (z19 v19) (z1a v19)] (pA k23 (pA (z30 (X:=X) k24) (pA (z1d (X:=X) k25) pT))) (by kernel_rfl) ?_
        refine lp (ok X) (z5f (z2j n) (z1m n) a1) (fun (x3:((List z0r) × Int × Int × Int × Int × (List z2k)))=>⟨218,1,[(0,[xP 0 0]),(1,[xI a1]),(5,[xR 1]),(6,[xP 2 0])],[oB 89 (bs (z0c (z01.mk x3.1 x3.2.1 x3.2.2.1 x3.2.2.2.1 x3.2.2.2.2.1))),oR true 50 19 (List.map z09 x1.2.2.2.2.2),oB 50 [.pv (.int .i64 5),.pv (.str v18.2),.pv (.str (ByteArray.mk #[])),.pv (.int .i64 0),.pv (.int .i64 0),.pv (.str (ByteArray.mk #[])),.emp,.pv (.int .i64 0),.pv (.int .i64 0),.pv (.int .i64 0),.pv (.str (ByteArray.mk #[])),.emp,.pv (.int .i64 0),.pv (.int .i64 0),.pv (.str (ByteArray.mk #[])),.emp,.emp,.emp,.row 3],oR true 151 3 (List.map z4o x3.2.2.2.2.2)]⟩) (fun (j3:((List z0r) × Int × Int × Int × Int × (List z2k)))=>⟨218,1,[(0,[xP 0 0]),(1,[xI a1]),(5,[xR 1]),(6,[xP 2 0])],[oB 89 (bs (z0c (z01.mk j3.1 j3.2.1 j3.2.2.1 j3.2.2.2.1 j3.2.2.2.2.1))),oR true 50 19 (List.map z09 x1.2.2.2.2.2),oB 50 [.pv (.int .i64 5),.pv (.str v18.2),.pv (.str (ByteArray.mk #[])),.pv (.int .i64 0),.pv (.int .i64 0),.pv (.str (ByteArray.mk #[])),.emp,.pv (.int .i64 0),.pv (.int .i64 0),.pv (.int .i64 0),.pv (.str (ByteArray.mk #[])),.emp,.pv (.int .i64 0),.pv (.int .i64 0),.pv (.str (ByteArray.mk #[])),.emp,.emp,.emp,.row 3],oR true 151 3 (List.map z4o j3.2.2.2.2.2)]⟩) zcc (v19.L,v19.I,v19.End,v19.E,v19.At,[]) (fun _=>⟨_,_,_,_,rfl⟩) h (by kernel_rfl) (fun x3 o h=>?_) (fun r' h=>?_) (fun j3 h=>?_)
        ·unfold z5f at h
         refine adv (ok X) 2 [] pT (by kernel_rfl) ?_
         refine jn (ok X) 1 (fun (j4:Bool)=>⟨218,1,[(0,[xP 0 0]),(1,[xI a1]),(5,[xR 1]),(6,[xP 2 0]),(122,[xB j4])],[oB 89 (bs (z0c (z01.mk x3.1 x3.2.1 x3.2.2.1 x3.2.2.2.1 x3.2.2.2.2.1))),oR true 50 19 (List.map z09 x1.2.2.2.2.2),oB 50 [.pv (.int .i64 5),.pv (.str v18.2),.pv (.str (ByteArray.mk #[])),.pv (.int .i64 0),.pv (.int .i64 0),.pv (.str (ByteArray.mk #[])),.emp,.pv (.int .i64 0),.pv (.int .i64 0),.pv (.int .i64 0),.pv (.str (ByteArray.mk #[])),.emp,.pv (.int .i64 0),.pv (.int .i64 0),.pv (.str (ByteArray.mk #[])),.emp,.emp,.emp,.row 3],oR true 151 3 (List.map z4o x3.2.2.2.2.2)]⟩) h (fun j4 h=>?_) (fun j4 h=>?_)
         ·rcases iteE h with ⟨k26,h⟩|⟨k26,h⟩
          ·rcases iteE h with ⟨k27,h⟩|⟨k27,h⟩
           ·obtain rfl:=retE h
            exact fin (ok X) 1 (bT 3 (.i (x3.2.2.2.2.2.length:Int)::bT 8 [])) (pR 3 k26 (pA (lm z4o x3.2.2.2.2.2) (pA k26 (pA k26 (pR 3 k27 (pA k26 (pA k27 (pA k26 pT)))))))) (by kernel_rfl)
           ·obtain ⟨v20,k28,h⟩:=z07 h
            obtain rfl:=retE h
            exact fin (ok X) 1 (bT 3 [.i (x3.2.2.2.2.2.length:Int),.b true,.b true,.b false,.b false,.s (z1q v20) (z1r (z01.mk x3.1 x3.2.1 x3.2.2.1 x3.2.2.2.1 x3.2.2.2.2.1) v20),.b false,.b true,.b false,.b true]) (pR 3 k26 (pA (lm z4o x3.2.2.2.2.2) (pA k26 (pA k26 (pA k27 (pA k27 (pA (z1x (X:=X) k28) (pA k27 (pA k26 (pA k27 (pA k26 pT))))))))))) (by kernel_rfl)
          ·obtain rfl:=retE h
           exact fin (ok X) 1 (bF 7 []) (pR 7 k26 pT) (by kernel_rfl)
         ·rcases iteE h with ⟨k29,h⟩|⟨k29,h⟩
          ·obtain ⟨v21,k30,h⟩:=z07 h
           obtain ⟨v22,k31,h⟩:=z07 h
           obtain ⟨v23,k32,h⟩:=z07 h
           obtain ⟨v24,k33,h⟩:=z07 h
           obtain ⟨v25,k34,h⟩:=z07 h
           obtain ⟨v26,k35,h⟩:=z07 h
           obtain rfl:=retE h
           exact fin (ok X) 17 [.b true,.s (z2h v21) (z2i v21),.s (z19 v22) (z1a v22),.s (z2h v23) (z2i v23),.s (z19 v24) (z1a v24),.s (z5u v25) (z5v v25),.bl (List.map z4o [(z2k.mk v21.2 v23.2 v25.2)]),.l (List.map z4o v26)] (pA k29 (pA (z30 (X:=X) k30) (pA (z1d (X:=X) k31) (pA (z30 (X:=X) k32) (pA (z1d (X:=X) k33) (pA (ih_r03_Reader_block _ _ _ k34) (pA (blc (e:=z4o) (x:=(z2k.mk v21.2 v23.2 v25.2)) (z2w _).symm (bl0 z4o)) (pA (apm (L:=x3.2.2.2.2.2) (M:=[(z2k.mk v21.2 v23.2 v25.2)]) zpy k35) pT)))))))) (by kernel_rfl)
          ·obtain rfl:=retE h
           exact fin (ok X) 2 [.b false] (pA k29 pT) (by kernel_rfl)
        ·cases h
        ·obtain ⟨v27,k36,h⟩:=z07 h
         obtain rfl:=retE h
         exact fin (ok X) 2 [.s (z19 v27) (z1a v27)] (pA (z1d (X:=X) k36) pT) (by kernel_rfl)
       ·obtain ⟨v28,k37,h⟩:=z07 h
        refine adv (ok X) 3 [.b false,.s (z1q v28) (z1r (z01.mk x1.1 x1.2.1 x1.2.2.1 x1.2.2.2.1 x1.2.2.2.2.1) v28)] (pA k23 (pA (z1x (X:=X) k37) pT)) (by kernel_rfl) ?_
        rcases iteE h with ⟨k38,h⟩|⟨k38,h⟩
        ·obtain ⟨v29,k39,h⟩:=z07 h
         obtain ⟨v30,k40,h⟩:=z07 h
         obtain rfl:=retE h
         exact fin (ok X) 7 [.b true,.s (z8v v29) (z8w v29),.s (z19 v30) (z1a v30)] (pA k38 (pA (zcx (X:=X) k39) (pA (z1d (X:=X) k40) pT))) (by kernel_rfl)
        ·obtain ⟨v31,k41,h⟩:=z07 h
         refine adv (ok X) 3 [.b false,.s (z1q v31) (z1r (z01.mk x1.1 x1.2.1 x1.2.2.1 x1.2.2.2.1 x1.2.2.2.2.1) v31)] (pA k38 (pA (z1x (X:=X) k41) pT)) (by kernel_rfl) ?_
         rcases iteE h with ⟨k42,h⟩|⟨k42,h⟩
         ·obtain ⟨v32,k43,h⟩:=z07 h
          obtain ⟨v33,k44,h⟩:=z07 h
          obtain rfl:=retE h
          exact fin (ok X) 7 [.b true,.s (z2h v32) (z2i v32),.s (z19 v33) (z1a v33)] (pA k42 (pA (z30 (X:=X) k43) (pA (z1d (X:=X) k44) pT))) (by kernel_rfl)
         ·refine adv (ok X) 2 [.b false] (pA k42 pT) (by kernel_rfl) ?_
          refine jn (ok X) 1 (fun (j5:Bool)=>⟨218,1,[(0,[xP 0 0]),(1,[xI a1]),(5,[xR 1]),(6,[xP 2 0]),(177,[xB j5])],[oB 89 (bs (z0c (z01.mk x1.1 x1.2.1 x1.2.2.1 x1.2.2.2.1 x1.2.2.2.2.1))),oR true 50 19 (List.map z09 x1.2.2.2.2.2),oB 50 [.pv (.int .i64 0),.pv (.str (ByteArray.mk #[])),.pv (.str (ByteArray.mk #[])),.pv (.int .i64 0),.pv (.int .i64 0),.pv (.str (ByteArray.mk #[])),.emp,.pv (.int .i64 0),.pv (.int .i64 0),.pv (.int .i64 0),.pv (.str (ByteArray.mk #[])),.emp,.pv (.int .i64 0),.pv (.int .i64 0),.pv (.str (ByteArray.mk #[])),.emp,.emp,.emp,.emp]]⟩) h (fun j5 h=>?_) (fun j5 h=>?_)
          ·rcases iteE h with ⟨k45,h⟩|⟨k45,h⟩
           ·obtain ⟨v34,k46,h⟩:=z07 h
            obtain rfl:=retE h
            exact fin (ok X) 1 (.o [0,1,2,3,4,5,6,7,8,9,10,11,12,13,14,15,16,17,18,19,20,21,22,23,24]::.i (x1.1.length:Int)::bT 9 (.e (z0v v34)::bT 4 [])) (pA (lm z0v x1.1) (pR 9 k45 (pA (ixm z0v k46) (pR 4 k45 pT)))) (by kernel_rfl)
           ·obtain rfl:=retE h
            exact fin (ok X) 1 (.o [0,1,2,3,4,5,6,7,8,9,10,11,12,13,14,15,16,17,18,19,20,21,22,23,24]::.i (x1.1.length:Int)::bF 13 []) (pA (lm z0v x1.1) (pR 13 k45 pT)) (by kernel_rfl)
          ·rcases iteE h with ⟨k47,h⟩|⟨k47,h⟩
           ·obtain ⟨v35,k48,h⟩:=z07 h
            obtain ⟨v36,k49,h⟩:=z07 h
            obtain ⟨v37,k50,h⟩:=z07 h
            obtain ⟨v38,k51,h⟩:=z07 h
            obtain rfl:=retE h
            exact fin (ok X) 9 [.b true,.s (z2h v35) (z2i v35),.s (z19 v36) (z1a v36),.s (z4k v37) (z4l v37),.s (z19 v38) (z1a v38)] (pA k47 (pA (z30 (X:=X) k48) (pA (z1d (X:=X) k49) (pA (zag (X:=X) k50) (pA (z1d (X:=X) k51) pT))))) (by kernel_rfl)
           ·obtain rfl:=retE h
            exact fin (ok X) 4 [.b false] (pA k47 pT) (by kernel_rfl)
   ·obtain rfl:=retE h
    kernel_rfl
   ·obtain ⟨v39,k52,h⟩:=z07 h
    obtain rfl:=retE h
    exact fin (ok X) 2 [.z (.fz 3),.bl (List.map z09 [(z03.mk j2.2.2.2.2.2.1.Kind j2.2.2.2.2.2.1.Name j2.2.2.2.2.2.1.Tag j2.2.2.2.2.2.1.E j2.2.2.2.2.2.1.C j2.2.2.2.2.2.1.Body j2.2.2.2.2.2.1.Else j2.2.2.2.2.2.2)]),.l (List.map z09 v39)] (pA (blc (e:=z09) (x:=(z03.mk j2.2.2.2.2.2.1.Kind j2.2.2.2.2.2.1.Name j2.2.2.2.2.2.1.Tag j2.2.2.2.2.2.1.E j2.2.2.2.2.2.1.C j2.2.2.2.2.2.1.Body j2.2.2.2.2.2.1.Else j2.2.2.2.2.2.2)) (z7l _).symm (bl0 z09)) (pA (apm (L:=x1.2.2.2.2.2) (M:=[(z03.mk j2.2.2.2.2.2.1.Kind j2.2.2.2.2.2.1.Name j2.2.2.2.2.2.1.Tag j2.2.2.2.2.2.1.E j2.2.2.2.2.2.1.C j2.2.2.2.2.2.1.Body j2.2.2.2.2.2.1.Else j2.2.2.2.2.2.2)]) zo4 k52) pT)) (by kernel_rfl)
  ·obtain rfl:=retE h
   exact fin (ok X) 5 [.b false] (pA k1 pT) (by kernel_rfl)
 ·obtain rfl:=retE h
  kernel_rfl
 ·obtain rfl:=retE h
  exact fin (ok X) 3 [] pT (by kernel_rfl)
theorem zkk {n:Nat} (ih_r03_Reader_stmts:∀ (a0:z01) (a1:Int) (r:(z01 × (List z03))),z2j n a0 a1=some r→Cs Tryz.prog (GX X) 31 [xP 0 0,xI a1] [oB 89 (bs (z0c a0))] (z5s r) (z5t r)) (ih_r03_Reader_block:∀ (a0:z01) (a1:Int) (r:(z01 × (List z03))),z1m n a0 a1=some r→Cs Tryz.prog (GX X) 67 [xP 0 0,xI a1] [oB 89 (bs (z0c a0))] (z5u r) (z5v r)) (a0:z01) (a1:Int) (r:(z01 × (List z03))) (h:z1m (n+1) a0 a1=some r):Cs Tryz.prog (GX X) 67 [xP 0 0,xI a1] [oB 89 (bs (z0c a0))] (z5u r) (z5v r):=by
 refine fnT (cx:=cx X) Tryz.f67 Tryz.call67 Tryz.func67 (by kernel_rfl) ?_
 rw [z1m] at h
 refine adv (ok X) 4 [] pT (by kernel_rfl) ?_
 refine jn (ok X) 1 (fun (j1:Bool)=>⟨23,1,[(0,[xP 0 0]),(1,[xI a1]),(11,[xB j1])],[oB 89 (bs (z0c a0))]⟩) h (fun j1 h=>?_) (fun j1 h=>?_)
 ·obtain ⟨v1,k1,h⟩:=z07 h
  rcases iteE h with ⟨k2,h⟩|⟨k2,h⟩
  ·obtain rfl:=retE h
   exact fin (ok X) 1 (.s (z1q v1) (z1r a0 v1)::bT 3 []) (pA (z1x (X:=X) k1) (pR 3 k2 pT)) (by kernel_rfl)
  ·obtain rfl:=retE h
   exact fin (ok X) 1 (.s (z1q v1) (z1r a0 v1)::bF 3 []) (pA (z1x (X:=X) k1) (pR 3 k2 pT)) (by kernel_rfl)
 ·rcases iteE h with ⟨k3,h⟩|⟨k3,h⟩
  ·obtain ⟨v2,k4,h⟩:=z07 h
   obtain rfl:=retE h
   exact fin (ok X) 6 [.b true,.s (z5l v2) (z5m v2)] (pA k3 (pA (z67 (X:=X) k4) pT)) (by kernel_rfl)
  ·obtain ⟨v3,k5,h⟩:=z07 h
   obtain ⟨v4,k6,h⟩:=z07 h
   obtain ⟨v5,k7,h⟩:=z07 h
   obtain rfl:=retE h
   exact fin (ok X) 11 [.b false,.s (z19 v3) (z1a v3),.s (z5s v4) (z5t v4),.s (z19 v5) (z1a v5)] (pA k3 (pA (z1d (X:=X) k5) (pA (ih_r03_Reader_stmts _ _ _ k6) (pA (z1d (X:=X) k7) pT)))) (by kernel_rfl)
theorem zdu:∀ n:Nat,(∀ (a0:z01) (a1:Int) (r:(z01 × (List z03))),z2j n a0 a1=some r→Cs Tryz.prog (GX X) 31 [xP 0 0,xI a1] [oB 89 (bs (z0c a0))] (z5s r) (z5t r))∧(∀ (a0:z01) (a1:Int) (r:(z01 × (List z03))),z1m n a0 a1=some r→Cs Tryz.prog (GX X) 67 [xP 0 0,xI a1] [oB 89 (bs (z0c a0))] (z5u r) (z5v r))
 | 0=>⟨(fun _ _ _ h=>by rw [z2j] at h;cases h),(fun _ _ _ h=>by rw [z1m] at h;cases h)⟩
 | n+1=>by
  have ih:=zdu n
  exact ⟨zkj ih.1 ih.2,zkk ih.1 ih.2⟩
theorem zkl {a0:z01} {a1:Int} {r:(z01 × (List z03))} (h:z8d a0 a1=some r):Cs Tryz.prog (GX X) 31 [xP 0 0,xI a1] [oB 89 (bs (z0c a0))] (z5s r) (z5t r):=by
 obtain ⟨n,hn⟩:=unfE h
 exact (zdu n).1 _ _ _ hn
theorem zu2 {a0:ByteArray} {r:(z0i × Int × Int)} (h:zfm a0=some r):Cv Tryz.prog (GX X) 10 [xS a0] (zgi r):=by
 refine Cs.toV (?_:Cs Tryz.prog (GX X) 10 [xS a0] [] (zgi r) (zna r)) (by kernel_rfl)
 refine fnT (cx:=cx X) Tryz.f10 Tryz.call10 Tryz.func10 (by kernel_rfl) ?_
 unfold zfm at h
 obtain ⟨v1,k1,h⟩:=z07 h
 refine adv (ok X) 7 [.c (zha v1)] (pA (zs4 (X:=X) k1) pT) (by kernel_rfl) ?_
 rcases iteE h with ⟨k2,h⟩|⟨k2,h⟩
 ·obtain rfl:=retE h
  exact fin (ok X) 4 [.b true] (pA k2 pT) (by kernel_rfl)
 ·refine adv (ok X) 7 [.b false] (pA k2 pT) (by kernel_rfl) ?_
  refine lp (ok X) (z8j) (fun (x1:((List z0r) × Int × Int × Int × Int × (List z3l)))=>⟨164,0,[(2,[xP 0 0]),(8,[xP 1 0]),(9,[xP 2 0])],[oB 34 [.emp,.emp,.emp],oB 89 (bs (z0c (z01.mk x1.1 x1.2.1 x1.2.2.1 x1.2.2.2.1 x1.2.2.2.2.1))),oB 34 [.row 3,.emp,.emp],oR true 90 6 (List.map z2a x1.2.2.2.2.2)]⟩) (fun (j1:((List z0r) × Int × Int × Int × Int × (List z3l)))=>⟨164,0,[(2,[xP 0 0]),(8,[xP 1 0]),(9,[xP 2 0])],[oB 34 [.emp,.emp,.emp],oB 89 (bs (z0c (z01.mk j1.1 j1.2.1 j1.2.2.1 j1.2.2.2.1 j1.2.2.2.2.1))),oB 34 [.row 3,.emp,.emp],oR true 90 6 (List.map z2a j1.2.2.2.2.2)]⟩) zem (v1.1,0,(a0.size:Int),0,0,[]) (fun _=>⟨_,_,_,_,rfl⟩) h (by kernel_rfl) (fun x1 o h=>?_) (fun r' h=>?_) (fun j1 h=>?_)
  ·unfold z8j at h
   obtain ⟨v2,k3,h⟩:=z07 h
   refine adv (ok X) 3 [.s (z1q v2) (z1r (z01.mk x1.1 x1.2.1 x1.2.2.1 x1.2.2.2.1 x1.2.2.2.2.1) v2)] (pA (z1x (X:=X) k3) pT) (by kernel_rfl) ?_
   rcases iteE h with ⟨k4,h⟩|⟨k4,h⟩
   ·obtain ⟨v3,k5,h⟩:=z07 h
    obtain ⟨v4,k6,h⟩:=z07 h
    obtain rfl:=retE h
    exact fin (ok X) 7 [.b true,.o [0,1,2,3,4,5,6,7],.s (zal v3) (zam v3),.l (List.map z2a v4)] (pA k4 (pA (zin (X:=X) k5) (pA (apm (L:=x1.2.2.2.2.2) (M:=[v3.2]) zoe k6) pT))) (by kernel_rfl)
   ·obtain rfl:=retE h
    exact fin (ok X) 2 [.b false] (pA k4 pT) (by kernel_rfl)
  ·cases h
  ·refine adv (ok X) 1 [] pT (by kernel_rfl) ?_
   refine lp (ok X) (z8k) (fun (x2:((List z0r) × Int × Int × Int × Int × (List z4t)))=>⟨164,0,[(2,[xP 0 0]),(8,[xP 1 0]),(9,[xP 2 0])],[oB 34 [.emp,.emp,.emp],oB 89 (bs (z0c (z01.mk x2.1 x2.2.1 x2.2.2.1 x2.2.2.2.1 x2.2.2.2.2.1))),oB 34 [.row 3,.row 4,.emp],oR true 90 6 (List.map z2a j1.2.2.2.2.2),oR true 95 2 (List.map z1p x2.2.2.2.2.2)]⟩) (fun (j2:((List z0r) × Int × Int × Int × Int × (List z4t)))=>⟨164,0,[(2,[xP 0 0]),(8,[xP 1 0]),(9,[xP 2 0])],[oB 34 [.emp,.emp,.emp],oB 89 (bs (z0c (z01.mk j2.1 j2.2.1 j2.2.2.1 j2.2.2.2.1 j2.2.2.2.2.1))),oB 34 [.row 3,.row 4,.emp],oR true 90 6 (List.map z2a j1.2.2.2.2.2),oR true 95 2 (List.map z1p j2.2.2.2.2.2)]⟩) zem (j1.1,j1.2.1,j1.2.2.1,j1.2.2.2.1,j1.2.2.2.2.1,[]) (fun _=>⟨_,_,_,_,rfl⟩) h (by kernel_rfl) (fun x2 o h=>?_) (fun r' h=>?_) (fun j2 h=>?_)
   ·unfold z8k at h
    obtain ⟨v5,k7,h⟩:=z07 h
    refine adv (ok X) 3 [.s (z1q v5) (z1r (z01.mk x2.1 x2.2.1 x2.2.2.1 x2.2.2.2.1 x2.2.2.2.2.1) v5)] (pA (z1x (X:=X) k7) pT) (by kernel_rfl) ?_
    rcases iteE h with ⟨k8,h⟩|⟨k8,h⟩
    ·obtain ⟨v6,k9,h⟩:=z07 h
     obtain ⟨v7,k10,h⟩:=z07 h
     refine adv (ok X) 10 [.b true,.s (z2h v6) (z2i v6),.s (z19 v7) (z1a v7)] (pA k8 (pA (z30 (X:=X) k9) (pA (z1d (X:=X) k10) pT))) (by kernel_rfl) ?_
     refine lp (ok X) (z5w) (fun (x3:((List z0r) × Int × Int × Int × Int × (List z6c)))=>⟨164,0,[(2,[xP 0 0]),(8,[xP 1 0]),(9,[xP 2 0]),(10,[xP 5 0])],[oB 34 [.emp,.emp,.emp],oB 89 (bs (z0c (z01.mk x3.1 x3.2.1 x3.2.2.1 x3.2.2.2.1 x3.2.2.2.2.1))),oB 34 [.row 3,.row 4,.emp],oR true 90 6 (List.map z2a j1.2.2.2.2.2),oR true 95 2 (List.map z1p x2.2.2.2.2.2),oB 95 [.pv (.str v6.2),.row 6],oR true 98 3 (List.map z4r x3.2.2.2.2.2)]⟩) (fun (j3:((List z0r) × Int × Int × Int × Int × (List z6c)))=>⟨164,0,[(2,[xP 0 0]),(8,[xP 1 0]),(9,[xP 2 0]),(10,[xP 5 0])],[oB 34 [.emp,.emp,.emp],oB 89 (bs (z0c (z01.mk j3.1 j3.2.1 j3.2.2.1 j3.2.2.2.1 j3.2.2.2.2.1))),oB 34 [.row 3,.row 4,.emp],oR true 90 6 (List.map z2a j1.2.2.2.2.2),oR true 95 2 (List.map z1p x2.2.2.2.2.2),oB 95 [.pv (.str v6.2),.row 6],oR true 98 3 (List.map z4r j3.2.2.2.2.2)]⟩) zem (v7.L,v7.I,v7.End,v7.E,v7.At,[]) (fun _=>⟨_,_,_,_,rfl⟩) h (by kernel_rfl) (fun x3 o h=>?_) (fun r' h=>?_) (fun j3 h=>?_)
     ·unfold z5w at h
      refine adv (ok X) 2 [] pT (by kernel_rfl) ?_
      refine jn (ok X) 1 (fun (j4:Bool)=>⟨164,0,[(2,[xP 0 0]),(8,[xP 1 0]),(9,[xP 2 0]),(10,[xP 5 0]),(68,[xB j4])],[oB 34 [.emp,.emp,.emp],oB 89 (bs (z0c (z01.mk x3.1 x3.2.1 x3.2.2.1 x3.2.2.2.1 x3.2.2.2.2.1))),oB 34 [.row 3,.row 4,.emp],oR true 90 6 (List.map z2a j1.2.2.2.2.2),oR true 95 2 (List.map z1p x2.2.2.2.2.2),oB 95 [.pv (.str v6.2),.row 6],oR true 98 3 (List.map z4r x3.2.2.2.2.2)]⟩) h (fun j4 h=>?_) (fun j4 h=>?_)
      ·rcases iteE h with ⟨k11,h⟩|⟨k11,h⟩
       ·obtain ⟨v8,k12,h⟩:=z07 h
        obtain rfl:=retE h
        exact fin (ok X) 1 [.b true,.b true,.s (z1q v8) (z1r (z01.mk x3.1 x3.2.1 x3.2.2.1 x3.2.2.2.1 x3.2.2.2.2.1) v8),.b true,.b true] (pA k11 (pA k11 (pA (z1x (X:=X) k12) (pA k11 (pA k11 pT))))) (by kernel_rfl)
       ·obtain rfl:=retE h
        exact fin (ok X) 1 (bF 4 []) (pR 4 k11 pT) (by kernel_rfl)
      ·rcases iteE h with ⟨k13,h⟩|⟨k13,h⟩
       ·obtain ⟨v9,k14,h⟩:=z07 h
        obtain ⟨v10,k15,h⟩:=z07 h
        obtain ⟨v11,k16,h⟩:=z07 h
        obtain ⟨v12,k17,h⟩:=z07 h
        obtain ⟨v13,k18,h⟩:=z07 h
        obtain rfl:=retE h
        exact fin (ok X) 15 [.b true,.s (z81 v9) (z82 v9),.s (z2h v10) (z2i v10),.s (z81 v11) (z82 v11),.s (z19 v12) (z1a v12),.l (List.map z4r v13)] (pA k13 (pA (z9a (X:=X) k14) (pA (z30 (X:=X) k15) (pA (z9a (X:=X) k16) (pA (z1d (X:=X) k17) (pA (apm (L:=x3.2.2.2.2.2) (M:=[(z6c.mk v9.2 v10.2 v11.2)]) zof k18) pT)))))) (by kernel_rfl)
       ·obtain rfl:=retE h
        exact fin (ok X) 2 [.b false] (pA k13 pT) (by kernel_rfl)
     ·cases h
     ·obtain ⟨v14,k19,h⟩:=z07 h
      obtain ⟨v15,k20,h⟩:=z07 h
      obtain rfl:=retE h
      exact fin (ok X) 4 [.s (z19 v14) (z1a v14),.z (.fz 6),.l (List.map z1p v15)] (pA (z1d (X:=X) k19) (pA (apm (L:=x2.2.2.2.2.2) (M:=[(z4t.mk v6.2 j3.2.2.2.2.2)]) zog k20) pT)) (by kernel_rfl)
    ·obtain rfl:=retE h
     exact fin (ok X) 2 [.b false] (pA k8 pT) (by kernel_rfl)
   ·cases h
   ·refine adv (ok X) 1 [] pT (by kernel_rfl) ?_
    refine lp (ok X) (z7n) (fun (x5:((List z0r) × Int × Int × Int × Int × (List z31)))=>⟨164,0,[(2,[xP 0 0]),(8,[xP 1 0]),(9,[xP 2 0])],[oB 34 [.emp,.emp,.emp],oB 89 (bs (z0c (z01.mk x5.1 x5.2.1 x5.2.2.1 x5.2.2.2.1 x5.2.2.2.2.1))),oB 34 [.row 3,.row 4,.row 5],oR true 90 6 (List.map z2a j1.2.2.2.2.2),oR true 95 2 (List.map z1p j2.2.2.2.2.2),oR true 53 3 (List.map z2e x5.2.2.2.2.2)]⟩) (fun (j5:((List z0r) × Int × Int × Int × Int × (List z31)))=>⟨164,0,[(2,[xP 0 0]),(8,[xP 1 0]),(9,[xP 2 0])],[oB 34 [.emp,.emp,.emp],oB 89 (bs (z0c (z01.mk j5.1 j5.2.1 j5.2.2.1 j5.2.2.2.1 j5.2.2.2.2.1))),oB 34 [.row 3,.row 4,.row 5],oR true 90 6 (List.map z2a j1.2.2.2.2.2),oR true 95 2 (List.map z1p j2.2.2.2.2.2),oR true 53 3 (List.map z2e j5.2.2.2.2.2)]⟩) zem (j2.1,j2.2.1,j2.2.2.1,j2.2.2.2.1,j2.2.2.2.2.1,[]) (fun _=>⟨_,_,_,_,rfl⟩) h (by kernel_rfl) (fun x5 o h=>?_) (fun r' h=>?_) (fun j5 h=>?_)
    ·unfold z7n at h
     obtain ⟨v16,k21,h⟩:=z07 h
     refine adv (ok X) 3 [.s (z1q v16) (z1r (z01.mk x5.1 x5.2.1 x5.2.2.1 x5.2.2.2.1 x5.2.2.2.2.1) v16)] (pA (z1x (X:=X) k21) pT) (by kernel_rfl) ?_
     rcases iteE h with ⟨k22,h⟩|⟨k22,h⟩
     ·obtain ⟨v17,k23,h⟩:=z07 h
      obtain ⟨v18,k24,h⟩:=z07 h
      refine adv (ok X) 10 [.b true,.s (z2h v17) (z2i v17),.s (z19 v18) (z1a v18)] (pA k22 (pA (z30 (X:=X) k23) (pA (z1d (X:=X) k24) pT))) (by kernel_rfl) ?_
      refine lp (ok X) (z5x) (fun (x6:((List z0r) × Int × Int × Int × Int × (List ByteArray)))=>⟨164,0,[(2,[xP 0 0]),(8,[xP 1 0]),(9,[xP 2 0]),(12,[xP 6 0])],[oB 34 [.emp,.emp,.emp],oB 89 (bs (z0c (z01.mk x6.1 x6.2.1 x6.2.2.1 x6.2.2.2.1 x6.2.2.2.2.1))),oB 34 [.row 3,.row 4,.row 5],oR true 90 6 (List.map z2a j1.2.2.2.2.2),oR true 95 2 (List.map z1p j2.2.2.2.2.2),oR true 53 3 (List.map z2e x5.2.2.2.2.2),oB 53 [.pv (.str v17.2),.row 7,.emp],oR true 9 1 (List.map z1g x6.2.2.2.2.2)]⟩) (fun (j6:((List z0r) × Int × Int × Int × Int × (List ByteArray)))=>⟨164,0,[(2,[xP 0 0]),(8,[xP 1 0]),(9,[xP 2 0]),(12,[xP 6 0])],[oB 34 [.emp,.emp,.emp],oB 89 (bs (z0c (z01.mk j6.1 j6.2.1 j6.2.2.1 j6.2.2.2.1 j6.2.2.2.2.1))),oB 34 [.row 3,.row 4,.row 5],oR true 90 6 (List.map z2a j1.2.2.2.2.2),oR true 95 2 (List.map z1p j2.2.2.2.2.2),oR true 53 3 (List.map z2e x5.2.2.2.2.2),oB 53 [.pv (.str v17.2),.row 7,.emp],oR true 9 1 (List.map z1g j6.2.2.2.2.2)]⟩) zem (v18.L,v18.I,v18.End,v18.E,v18.At,[]) (fun _=>⟨_,_,_,_,rfl⟩) h (by kernel_rfl) (fun x6 o h=>?_) (fun r' h=>?_) (fun j6 h=>?_)
      ·unfold z5x at h
       obtain ⟨v19,k25,h⟩:=z07 h
       refine adv (ok X) 3 [.s (z1q v19) (z1r (z01.mk x6.1 x6.2.1 x6.2.2.1 x6.2.2.2.1 x6.2.2.2.2.1) v19)] (pA (z1x (X:=X) k25) pT) (by kernel_rfl) ?_
       rcases iteE h with ⟨k26,h⟩|⟨k26,h⟩
       ·obtain ⟨v20,k27,h⟩:=z07 h
        obtain ⟨v21,k28,h⟩:=z07 h
        obtain ⟨v22,k29,h⟩:=z07 h
        obtain rfl:=retE h
        exact fin (ok X) 9 [.b true,.o [0,1,2,3,4,5,6,7],.s (z2h v20) (z2i v20),.l (List.map z1g v21),.s (z19 v22) (z1a v22)] (pA k26 (pA (z30 (X:=X) k27) (pA (apm (L:=x6.2.2.2.2.2) (M:=[v20.2]) z1t k28) (pA (z1d (X:=X) k29) pT)))) (by kernel_rfl)
       ·obtain rfl:=retE h
        exact fin (ok X) 2 [.b false] (pA k26 pT) (by kernel_rfl)
      ·cases h
      ·obtain ⟨v23,k30,h⟩:=z07 h
       obtain ⟨v24,k31,h⟩:=z07 h
       obtain ⟨v25,k32,h⟩:=z07 h
       obtain rfl:=retE h
       exact fin (ok X) 6 [.s (z5s v23) (z5t v23),.s (z19 v24) (z1a v24),.z (.fz 7),.l (List.map z2e v25)] (pA (zkl (X:=X) k30) (pA (z1d (X:=X) k31) (pA (apm (L:=x5.2.2.2.2.2) (M:=[(z31.mk v17.2 j6.2.2.2.2.2 v23.2)]) zoh k32) pT))) (by kernel_rfl)
     ·obtain rfl:=retE h
      exact fin (ok X) 2 [.b false] (pA k22 pT) (by kernel_rfl)
    ·cases h
    ·refine adv (ok X) 3 [.o [0,1,2,3,4,5,6,7,8,9],.i (j5.1.length:Int)] (pA (lm z0v j5.1) pT) (by kernel_rfl) ?_
     rcases iteE h with ⟨k33,h⟩|⟨k33,h⟩
     ·obtain ⟨v26,k34,h⟩:=z07 h
      refine adv (ok X) 5 [.b true,.s (z5l v26) (z5m v26)] (pA k33 (pA (z67 (X:=X) k34) pT)) (by kernel_rfl) ?_
      rcases iteE h with ⟨k35,h⟩|⟨k35,h⟩
      ·obtain rfl:=retE h
       exact fin (ok X) 4 [.b true,.o [0,1,2,3,4,5,6,7,8,9,10,11]] (pA k35 pT) (by kernel_rfl)
      ·obtain rfl:=retE h
       exact fin (ok X) 5 [.b false] (pA k35 pT) (by kernel_rfl)
     ·refine adv (ok X) 5 [.b false] (pA k33 pT) (by kernel_rfl) ?_
      rcases iteE h with ⟨k36,h⟩|⟨k36,h⟩
      ·obtain rfl:=retE h
       exact fin (ok X) 4 [.b true,.o [0,1,2,3,4,5,6,7,8,9,10,11]] (pA k36 pT) (by kernel_rfl)
      ·obtain rfl:=retE h
       exact fin (ok X) 5 [.b false] (pA k36 pT) (by kernel_rfl)
theorem zy4 {n:Nat} (ih_l02_Expr:∀ (a0:z04) (r:z06),zaq n a0=some r→Cv Tryz.prog (GX X) 73 [.agg (bs (z0f a0))] (z9f r)) (a0:z04) (r:z06) (h:zaq (n+1) a0=some r):Cv Tryz.prog (GX X) 73 [.agg (bs (z0f a0))] (z9f r):=by
 refine Cs.toV (?_:Cs Tryz.prog (GX X) 73 [.agg (bs (z0f a0))] [] (z9f r) (zp4 r)) (by kernel_rfl)
 refine fnT (cx:=cx X) Tryz.f73 Tryz.call73 Tryz.func73 (by kernel_rfl) ?_
 rw [zaq] at h
 refine adv (ok X) 7 [] pT (by kernel_rfl) ?_
 refine lp (ok X) (zcu (zaq n) a0) (fun (x1:(Int × (List z06)))=>⟨29,0,[(1,[xP 0 0]),(2,[xP 1 0]),(3,[xR 2]),(4,[xI x1.1])],[oB 43 (bs (z0f a0)),oB 103 [.pv (.int .i64 0),.pv (.int .i64 0),.pv (.str (ByteArray.mk #[])),.emp],oR true 103 4 (List.map z15 x1.2)]⟩) (fun (j1:(List z06))=>⟨29,0,[(1,[xP 0 0]),(2,[xP 1 0]),(3,[xR 2])],[oB 43 (bs (z0f a0)),oB 103 [.pv (.int .i64 0),.pv (.int .i64 0),.pv (.str (ByteArray.mk #[])),.emp],oR true 103 4 (List.map z15 j1)]⟩) zxv (0,[]) (fun _=>⟨_,_,_,_,rfl⟩) h (by kernel_rfl) (fun x1 o h=>?_) (fun r' h=>?_) (fun j1 h=>?_)
 ·unfold zcu at h
  refine adv (ok X) 3 [.i (a0.Kids.length:Int)] (pA (lm z1l a0.Kids) pT) (by kernel_rfl) ?_
  rcases iteE h with ⟨k1,h⟩|⟨k1,h⟩
  ·obtain ⟨v1,k2,h⟩:=z07 h
   obtain ⟨v2,k3,h⟩:=z07 h
   obtain ⟨v3,k4,h⟩:=z07 h
   obtain rfl:=retE h
   exact fin (ok X) 7 [.b true,.e (z0f v1),.c (z9f v2),.bl (List.map z15 [v2]),.l (List.map z15 v3)] (pA k1 (pA (ixr z26 k2) (pA (ih_l02_Expr _ _ k3) (pA (blc (e:=z15) (x:=v2) (z5z _).symm (bl0 z15)) (pA (apm (L:=x1.2) (M:=[v2]) zo5 k4) pT))))) (by kernel_rfl)
  ·obtain rfl:=retE h
   exact fin (ok X) 2 [.b false] (pA k1 pT) (by kernel_rfl)
 ·cases h
 ·obtain rfl:=retE h
  exact fin (ok X) 3 [] pT (by kernel_rfl)
theorem zlw:∀ n:Nat,(∀ (a0:z04) (r:z06),zaq n a0=some r→Cv Tryz.prog (GX X) 73 [.agg (bs (z0f a0))] (z9f r))
 | 0=>(fun _ _ h=>by rw [zaq] at h;cases h)
 | n+1=>by
  have ih:=zlw n
  exact zy4 ih
theorem zle {a0:z04} {r:z06} (h:zkd a0=some r):Cv Tryz.prog (GX X) 73 [.agg (bs (z0f a0))] (z9f r):=by
 obtain ⟨n,hn⟩:=unfE h
 exact (zlw n) _ _ hn
theorem zy5 {a0:z1k} {r:z3t} (h:zke a0=some r):Cv Tryz.prog (GX X) 74 [.agg (bs (z73 a0))] (zlb r):=by
 refine Cs.toV (?_:Cs Tryz.prog (GX X) 74 [.agg (bs (z73 a0))] [] (zlb r) (zxw r)) (by kernel_rfl)
 refine fnT (cx:=cx X) Tryz.f74 Tryz.call74 Tryz.func74 (by kernel_rfl) ?_
 unfold zke at h
 obtain ⟨v1,k1,h⟩:=z07 h
 obtain ⟨v2,k2,h⟩:=z07 h
 obtain rfl:=retE h
 exact fin (ok X) 5 [.o [0,1,2,3,4,5,6,7,8,9],.c (z9f v1),.c (z9f v2)] (pA (zle (X:=X) k1) (pA (zle (X:=X) k2) pT)) (by kernel_rfl)
theorem zu3 {n:Nat} (ih_l02_Stmts:∀ (a0:(List z03)) (r:(List z05)),z8e n a0=some r→Cv Tryz.prog (GX X) 43 [xL (List.map z09 a0)] (z8p r)) (a0:(List z03)) (r:(List z05)) (h:z8e (n+1) a0=some r):Cv Tryz.prog (GX X) 43 [xL (List.map z09 a0)] (z8p r):=by
 refine Cs.toV (?_:Cs Tryz.prog (GX X) 43 [xL (List.map z09 a0)] [] (z8p r) (znb r)) (by kernel_rfl)
 refine fnT (cx:=cx X) Tryz.f43 Tryz.call43 Tryz.func43 (by kernel_rfl) ?_
 rw [z8e] at h
 refine adv (ok X) 7 [] pT (by kernel_rfl) ?_
 refine lp (ok X) (zbz (z8e n) a0) (fun (x1:(Int × (List z05)))=>⟨74,0,[(0,[xL (List.map z09 a0)]),(3,[xR 0]),(4,[xI x1.1])],[oR true 108 19 (List.map z16 x1.2)]⟩) (fun (j1:(List z05))=>⟨74,0,[(3,[xR 0])],[oR true 108 19 (List.map z16 j1)]⟩) znc (0,[]) (fun _=>⟨_,_,_,_,rfl⟩) h (by kernel_rfl) (fun x1 o h=>?_) (fun r' h=>?_) (fun j1 h=>?_)
 ·unfold zbz at h
  refine adv (ok X) 3 [.i (a0.length:Int)] (pA (lm z09 a0) pT) (by kernel_rfl) ?_
  rcases iteE h with ⟨k1,h⟩|⟨k1,h⟩
  ·obtain ⟨v1,k2,h⟩:=z07 h
   obtain ⟨v2,k3,h⟩:=z07 h
   obtain ⟨v3,k4,h⟩:=z07 h
   obtain ⟨v4,k5,h⟩:=z07 h
   obtain ⟨v5,k6,h⟩:=z07 h
   refine adv (ok X) 11 [.b true,.e (z56 v1),.o [0,1,2,3,4,5,6,7,8,9,10,11,12,13,14,15,16,17,18,19,20],.c (z9f v2),.c (zlb v3),.c (z8p v4),.c (z8p v5)] (pA k1 (pA (ixr z7l k2) (pA (zle (X:=X) k3) (pA (zy5 (X:=X) k4) (pA (ih_l02_Stmts _ _ k5) (pA (ih_l02_Stmts _ _ k6) pT)))))) (by kernel_rfl) ?_
   refine lp (ok X) (zby (z8e n) v1) (fun (x2:(Int × (List z0y)))=>⟨74,0,[(0,[xL (List.map z09 a0)]),(3,[xR 0]),(4,[xI x1.1]),(5,[xP 1 0]),(6,[xP 2 0]),(7,[xI x2.1])],[oR true 108 19 (List.map z16 x1.2),oB 50 (bs (z56 v1)),oB 108 [.pv (.int .i64 v1.Kind),.pv (.str v1.Name),.pv (.str v1.Tag),.pv (.int .i64 v2.Kind),.pv (.int .i64 v2.Num),.pv (.str v2.Name),.pv (.sl (List.map z15 v2.Kids)),.pv (.int .i64 v3.Op),.pv (.int .i64 v3.L.Kind),.pv (.int .i64 v3.L.Num),.pv (.str v3.L.Name),.pv (.sl (List.map z15 v3.L.Kids)),.pv (.int .i64 v3.R.Kind),.pv (.int .i64 v3.R.Num),.pv (.str v3.R.Name),.pv (.sl (List.map z15 v3.R.Kids)),.pv (.sl (List.map z16 v4)),.pv (.sl (List.map z16 v5)),.row 3],oR true 156 3 (List.map z2l x2.2)]⟩) (fun (j2:(List z0y))=>⟨74,0,[(0,[xL (List.map z09 a0)]),(3,[xR 0]),(4,[xI x1.1]),(6,[xP 2 0])],[oR true 108 19 (List.map z16 x1.2),none,oB 108 [.pv (.int .i64 v1.Kind),.pv (.str v1.Name),.pv (.str v1.Tag),.pv (.int .i64 v2.Kind),.pv (.int .i64 v2.Num),.pv (.str v2.Name),.pv (.sl (List.map z15 v2.Kids)),.pv (.int .i64 v3.Op),.pv (.int .i64 v3.L.Kind),.pv (.int .i64 v3.L.Num),.pv (.str v3.L.Name),.pv (.sl (List.map z15 v3.L.Kids)),.pv (.int .i64 v3.R.Kind),.pv (.int .i64 v3.R.Num),.pv (.str v3.R.Name),.pv (.sl (List.map z15 v3.R.Kids)),.pv (.sl (List.map z16 v4)),.pv (.sl (List.map z16 v5)),.row 3],oR true 156 3 (List.map z2l j2)]⟩) znc (0,[]) (fun _=>⟨_,_,_,_,rfl⟩) h (by kernel_rfl) (fun x2 o h=>?_) (fun r' h=>?_) (fun j2 h=>?_)
   ·unfold zby at h
    refine adv (ok X) 3 [.i (v1.Arms.length:Int)] (pA (lm z4o v1.Arms) pT) (by kernel_rfl) ?_
    rcases iteE h with ⟨k7,h⟩|⟨k7,h⟩
    ·obtain ⟨v6,k8,h⟩:=z07 h
     obtain ⟨v7,k9,h⟩:=z07 h
     obtain ⟨v8,k10,h⟩:=z07 h
     obtain rfl:=retE h
     exact fin (ok X) 7 [.b true,.o [0,1,2,3,4,5,6,7,8,9,10,11,12,13,14,15,16,17,18,19,20,21,22,23,24,25],.e (z4v v6),.e (z4v v6),.e (z4v v6),.c (z8p v7),.bl (List.map z2l [(z0y.mk v6.Tag v6.Var v7)]),.l (List.map z2l v8)] (pA k7 (pA (ixr z2w k8) (pA (ixr z2w k8) (pA (ixr z2w k8) (pA (ih_l02_Stmts _ _ k9) (pA (blc (e:=z2l) (x:=(z0y.mk v6.Tag v6.Var v7)) (zbe _).symm (bl0 z2l)) (pA (apm (L:=x2.2) (M:=[(z0y.mk v6.Tag v6.Var v7)]) zg7 k10) pT))))))) (by kernel_rfl)
    ·obtain rfl:=retE h
     exact fin (ok X) 2 [.b false] (pA k7 pT) (by kernel_rfl)
   ·cases h
   ·obtain ⟨v9,k11,h⟩:=z07 h
    obtain rfl:=retE h
    exact fin (ok X) 3 [.z (.fz 3),.bl (List.map z16 [(z05.mk v1.Kind v1.Name v1.Tag v2 v3 v4 v5 j2)]),.l (List.map z16 v9)] (pA (blc (e:=z16) (x:=(z05.mk v1.Kind v1.Name v1.Tag v2 v3 v4 v5 j2)) (z45 _).symm (bl0 z16)) (pA (apm (L:=x1.2) (M:=[(z05.mk v1.Kind v1.Name v1.Tag v2 v3 v4 v5 j2)]) zir k11) pT)) (by kernel_rfl)
  ·obtain rfl:=retE h
   exact fin (ok X) 2 [.b false] (pA k1 pT) (by kernel_rfl)
 ·cases h
 ·obtain rfl:=retE h
  exact fin (ok X) 3 [] pT (by kernel_rfl)
theorem zkm:∀ n:Nat,(∀ (a0:(List z03)) (r:(List z05)),z8e n a0=some r→Cv Tryz.prog (GX X) 43 [xL (List.map z09 a0)] (z8p r))
 | 0=>(fun _ _ h=>by rw [z8e] at h;cases h)
 | n+1=>by
  have ih:=zkm n
  exact zu3 ih
theorem zu4 {a0:(List z03)} {r:(List z05)} (h:znd a0=some r):Cv Tryz.prog (GX X) 43 [xL (List.map z09 a0)] (z8p r):=by
 obtain ⟨n,hn⟩:=unfE h
 exact (zkm n) _ _ hn
theorem zlx {a0:z0i} {r:z23} (h:zcv a0=some r):Cv Tryz.prog (GX X) 13 [.agg (bs (z0e a0))] (zde r):=by
 refine Cs.toV (?_:Cs Tryz.prog (GX X) 13 [.agg (bs (z0e a0))] [] (zde r) (zlt r)) (by kernel_rfl)
 refine fnT (cx:=cx X) Tryz.f13 Tryz.call13 Tryz.func13 (by kernel_rfl) ?_
 unfold zcv at h
 refine adv (ok X) 7 [] pT (by kernel_rfl) ?_
 refine lp (ok X) (zaa a0) (fun (x1:(Int × (List z39)))=>⟨124,0,[(1,[xP 0 0]),(2,[xP 1 0]),(3,[xP 2 0]),(4,[xI x1.1])],[oB 34 (bs (z0e a0)),oB 26 [.emp,.emp,.emp],oB 26 [.row 3,.emp,.emp],oR true 73 6 (List.map z2o x1.2)]⟩) (fun (j1:(List z39))=>⟨124,0,[(1,[xP 0 0]),(2,[xP 1 0]),(3,[xP 2 0])],[oB 34 (bs (z0e a0)),oB 26 [.emp,.emp,.emp],oB 26 [.row 3,.emp,.emp],oR true 73 6 (List.map z2o j1)]⟩) zf5 (0,[]) (fun _=>⟨_,_,_,_,rfl⟩) h (by kernel_rfl) (fun x1 o h=>?_) (fun r' h=>?_) (fun j1 h=>?_)
 ·unfold zaa at h
  refine adv (ok X) 3 [.i (a0.Chans.length:Int)] (pA (lm z2a a0.Chans) pT) (by kernel_rfl) ?_
  rcases iteE h with ⟨k1,h⟩|⟨k1,h⟩
  ·obtain ⟨v1,k2,h⟩:=z07 h
   obtain ⟨v2,k3,h⟩:=z07 h
   obtain ⟨v3,k4,h⟩:=z07 h
   obtain rfl:=retE h
   exact fin (ok X) 9 [.b true,.e (z2a v1),.o [0,1,2,3,4,5,6,7,8,9,10,11,12,13,14,15,16,17,18,19,20],.cp (List.map z1g v2),.l (List.map z2o v3)] (pA k1 (pA (ixm z2a k2) (pA (apm z1t k3) (pA (apm (L:=x1.2) (M:=[(z39.mk v1.Name v1.Kind v1.Size v1.From v1.To v2)]) ziu k4) pT)))) (by kernel_rfl)
  ·obtain rfl:=retE h
   exact fin (ok X) 2 [.b false] (pA k1 pT) (by kernel_rfl)
 ·cases h
 ·refine adv (ok X) 3 [] pT (by kernel_rfl) ?_
  refine lp (ok X) (zac a0) (fun (x2:(Int × (List z3g)))=>⟨124,0,[(1,[xP 0 0]),(2,[xP 1 0]),(3,[xP 2 0]),(6,[xI x2.1])],[oB 34 (bs (z0e a0)),oB 26 [.emp,.emp,.emp],oB 26 [.row 3,.row 4,.emp],oR true 73 6 (List.map z2o j1),oR true 77 2 (List.map z3c x2.2)]⟩) (fun (j2:(List z3g))=>⟨124,0,[(1,[xP 0 0]),(2,[xP 1 0]),(3,[xP 2 0])],[oB 34 (bs (z0e a0)),oB 26 [.emp,.emp,.emp],oB 26 [.row 3,.row 4,.emp],oR true 73 6 (List.map z2o j1),oR true 77 2 (List.map z3c j2)]⟩) zf5 (0,[]) (fun _=>⟨_,_,_,_,rfl⟩) h (by kernel_rfl) (fun x2 o h=>?_) (fun r' h=>?_) (fun j2 h=>?_)
  ·unfold zac at h
   refine adv (ok X) 3 [.i (a0.Rules.length:Int)] (pA (lm z1p a0.Rules) pT) (by kernel_rfl) ?_
   rcases iteE h with ⟨k5,h⟩|⟨k5,h⟩
   ·obtain ⟨v4,k6,h⟩:=z07 h
    refine adv (ok X) 9 [.b true,.e (z1p v4)] (pA k5 (pA (ixm z1p k6) pT)) (by kernel_rfl) ?_
    refine lp (ok X) (zab a0 x2) (fun (x3:(Int × (List z4j)))=>⟨124,0,[(1,[xP 0 0]),(2,[xP 1 0]),(3,[xP 2 0]),(6,[xI x2.1]),(7,[xP 5 0]),(8,[xI x3.1])],[oB 34 (bs (z0e a0)),oB 26 [.emp,.emp,.emp],oB 26 [.row 3,.row 4,.emp],oR true 73 6 (List.map z2o j1),oR true 77 2 (List.map z3c x2.2),oB 77 [.pv (.str v4.Chan),.row 6],oR true 111 3 (List.map z4s x3.2)]⟩) (fun (j3:(List z4j))=>⟨124,0,[(1,[xP 0 0]),(2,[xP 1 0]),(3,[xP 2 0]),(6,[xI x2.1]),(7,[xP 5 0])],[oB 34 (bs (z0e a0)),oB 26 [.emp,.emp,.emp],oB 26 [.row 3,.row 4,.emp],oR true 73 6 (List.map z2o j1),oR true 77 2 (List.map z3c x2.2),oB 77 [.pv (.str v4.Chan),.row 6],oR true 111 3 (List.map z4s j3)]⟩) zf5 (0,[]) (fun _=>⟨_,_,_,_,rfl⟩) h (by kernel_rfl) (fun x3 o h=>?_) (fun r' h=>?_) (fun j3 h=>?_)
    ·unfold zab at h
     obtain ⟨v5,k7,h⟩:=z07 h
     refine adv (ok X) 3 [.e (z1p v5),.i (v5.Moves.length:Int)] (pA (ixm z1p k7) (pA (lm z4r v5.Moves) pT)) (by kernel_rfl) ?_
     rcases iteE h with ⟨k8,h⟩|⟨k8,h⟩
     ·obtain ⟨v6,k9,h⟩:=z07 h
      obtain ⟨v7,k10,h⟩:=z07 h
      obtain ⟨v8,k11,h⟩:=z07 h
      obtain rfl:=retE h
      exact fin (ok X) 9 [.b true,.e (z1p v6),.e (z4r v7),.l (List.map z4s v8)] (pA k8 (pA (ixm z1p k9) (pA (ixm z4r k10) (pA (apm (L:=x3.2) (M:=[(z4j.mk v7.From v7.Tag v7.To)]) ziv k11) pT)))) (by kernel_rfl)
     ·obtain rfl:=retE h
      exact fin (ok X) 2 [.b false] (pA k8 pT) (by kernel_rfl)
    ·cases h
    ·obtain ⟨v9,k12,h⟩:=z07 h
     obtain rfl:=retE h
     exact fin (ok X) 3 [.z (.fz 6),.l (List.map z3c v9)] (pA (apm (L:=x2.2) (M:=[(z3g.mk v4.Chan j3)]) ziw k12) pT) (by kernel_rfl)
   ·obtain rfl:=retE h
    exact fin (ok X) 2 [.b false] (pA k5 pT) (by kernel_rfl)
  ·cases h
  ·refine adv (ok X) 3 [] pT (by kernel_rfl) ?_
   refine lp (ok X) (zad a0) (fun (x4:(Int × (List z3h)))=>⟨124,0,[(1,[xP 0 0]),(2,[xP 1 0]),(3,[xP 2 0]),(10,[xI x4.1])],[oB 34 (bs (z0e a0)),oB 26 [.emp,.emp,.emp],oB 26 [.row 3,.row 4,.row 5],oR true 73 6 (List.map z2o j1),oR true 77 2 (List.map z3c j2),oR true 81 3 (List.map z0x x4.2)]⟩) (fun (j4:(List z3h))=>⟨124,0,[(2,[xP 1 0]),(3,[xP 2 0])],[none,oB 26 [.emp,.emp,.emp],oB 26 [.row 3,.row 4,.row 5],oR true 73 6 (List.map z2o j1),oR true 77 2 (List.map z3c j2),oR true 81 3 (List.map z0x j4)]⟩) zf5 (0,[]) (fun _=>⟨_,_,_,_,rfl⟩) h (by kernel_rfl) (fun x4 o h=>?_) (fun r' h=>?_) (fun j4 h=>?_)
   ·unfold zad at h
    refine adv (ok X) 3 [.i (a0.Procs.length:Int)] (pA (lm z2e a0.Procs) pT) (by kernel_rfl) ?_
    rcases iteE h with ⟨k13,h⟩|⟨k13,h⟩
    ·obtain ⟨v10,k14,h⟩:=z07 h
     obtain ⟨v11,k15,h⟩:=z07 h
     obtain ⟨v12,k16,h⟩:=z07 h
     obtain ⟨v13,k17,h⟩:=z07 h
     obtain rfl:=retE h
     exact fin (ok X) 9 [.b true,.e (z2e v10),.o [0,1,2,3,4,5,6,7,8,9,10,11,12,13,14,15],.cp (List.map z1g v11),.c (z8p v12),.l (List.map z0x v13)] (pA k13 (pA (ixm z2e k14) (pA (apm z1t k15) (pA (zu4 (X:=X) k16) (pA (apm (L:=x4.2) (M:=[(z3h.mk v10.Name v11 v12)]) zix k17) pT))))) (by kernel_rfl)
    ·obtain rfl:=retE h
     exact fin (ok X) 2 [.b false] (pA k13 pT) (by kernel_rfl)
   ·cases h
   ·obtain rfl:=retE h
    exact fin (ok X) 3 [] pT (by kernel_rfl)
theorem zu5 {a0:(List z4j)} {a1:(List z4j)} {r:Bool} (h:zhf a0 a1=some r):Cv Tryz.prog (GX X) 35 [xL (List.map z4s a0),xL (List.map z4s a1)] (zgj r):=by
 refine Cs.toV (?_:Cs Tryz.prog (GX X) 35 [xL (List.map z4s a0),xL (List.map z4s a1)] [] (zgj r) (zne r)) (by kernel_rfl)
 refine fnT (cx:=cx X) Tryz.f35 Tryz.call35 Tryz.func35 (by kernel_rfl) ?_
 unfold zhf at h
 refine adv (ok X) 5 [.i (a0.length:Int),.i (a1.length:Int)] (pA (lm z4s a0) (pA (lm z4s a1) pT)) (by kernel_rfl) ?_
 rcases iteE h with ⟨k1,h⟩|⟨k1,h⟩
 ·obtain rfl:=retE h
  exact fin (ok X) 4 [.b true] (pA k1 pT) (by kernel_rfl)
 ·refine adv (ok X) 5 [.b false,.i (a0.length:Int)] (pA k1 (pA (lm z4s a0) pT)) (by kernel_rfl) ?_
  refine lp (ok X) (zc0 a0 a1) (fun (x1:Int)=>⟨26,0,[(0,[xL (List.map z4s a0)]),(1,[xL (List.map z4s a1)]),(12,[xI (a0.length:Int)]),(13,[xI x1])],[]⟩) (fun (j1:Unit)=>⟨26,0,[],[]⟩) ztt 0 (fun _=>⟨_,_,_,_,rfl⟩) h (by kernel_rfl) (fun x1 o h=>?_) (fun r' h=>?_) (fun j1 h=>?_)
  ·unfold zc0 at h
   rcases iteE h with ⟨k2,h⟩|⟨k2,h⟩
   ·obtain ⟨v1,k3,h⟩:=z07 h
    obtain ⟨v2,k4,h⟩:=z07 h
    refine adv (ok X) 11 [.b true,.o [0,1,2,3,4,5,6,7,8],.e (z4s v1),.e (z4s v2)] (pA k2 (pA (ixm z4s k3) (pA (ixm z4s k4) pT))) (by kernel_rfl) ?_
    rcases iteE h with ⟨k5,h⟩|⟨k5,h⟩
    ·obtain rfl:=retE h
     exact fin (ok X) 4 [.b true] (pA k5 pT) (by kernel_rfl)
    ·obtain rfl:=retE h
     exact fin (ok X) 4 [.b false] (pA k5 pT) (by kernel_rfl)
   ·obtain rfl:=retE h
    exact fin (ok X) 5 [.b false] (pA k2 pT) (by kernel_rfl)
  ·obtain rfl:=retE h
   kernel_rfl
  ·obtain rfl:=retE h
   exact fin (ok X) 3 [] pT (by kernel_rfl)
theorem zs8 {a0:z3g} {a1:z3g} {r:Bool} (h:zia a0 a1=some r):Cv Tryz.prog (GX X) 34 [.agg (bs (z3c a0)),.agg (bs (z3c a1))] (zhg r):=by
 refine Cs.toV (?_:Cs Tryz.prog (GX X) 34 [.agg (bs (z3c a0)),.agg (bs (z3c a1))] [] (zhg r) (zs2 r)) (by kernel_rfl)
 refine fnT (cx:=cx X) Tryz.f34 Tryz.call34 Tryz.func34 (by kernel_rfl) ?_
 unfold zia at h
 rcases iteE h with ⟨k1,h⟩|⟨k1,h⟩
 ·obtain ⟨v1,k2,h⟩:=z07 h
  obtain rfl:=retE h
  exact fin (ok X) 5 (bT 5 [.c (zgj v1),.b true]) (pR 5 k1 (pA (zu5 (X:=X) k2) (pA k1 pT))) (by kernel_rfl)
 ·obtain rfl:=retE h
  exact fin (ok X) 5 (bF 6 []) (pR 6 k1 pT) (by kernel_rfl)
theorem zh0 {a0:(List z3g)} {a1:(List z3g)} {r:Bool} (h:z7i a0 a1=some r):Cv Tryz.prog (GX X) 33 [xL (List.map z3c a0),xL (List.map z3c a1),.fn (.func 34) [] []] (z86 r):=by
 refine Cs.toV (?_:Cs Tryz.prog (GX X) 33 [xL (List.map z3c a0),xL (List.map z3c a1),.fn (.func 34) [] []] [] (z86 r) (zci r)) (by kernel_rfl)
 refine fnT (cx:=cx X) Tryz.f33 Tryz.call33 Tryz.func33 (by kernel_rfl) ?_
 unfold z7i at h
 refine adv (ok X) 5 [.i (a0.length:Int),.i (a1.length:Int)] (pA (lm z3c a0) (pA (lm z3c a1) pT)) (by kernel_rfl) ?_
 rcases iteE h with ⟨k1,h⟩|⟨k1,h⟩
 ·obtain rfl:=retE h
  exact fin (ok X) 4 [.b true] (pA k1 pT) (by kernel_rfl)
 ·refine adv (ok X) 5 [.b false,.i (a0.length:Int)] (pA k1 (pA (lm z3c a0) pT)) (by kernel_rfl) ?_
  refine lp (ok X) (z5n a0 a1) (fun (x1:Int)=>⟨32,0,[(1,[xL (List.map z3c a1)]),(2,[.fn (.func 34) [] []]),(15,[xL (List.map z3c a0)]),(16,[xI (a0.length:Int)]),(17,[xI x1])],[]⟩) (fun (j1:Unit)=>⟨32,0,[],[]⟩) zgv 0 (fun _=>⟨_,_,_,_,rfl⟩) h (by kernel_rfl) (fun x1 o h=>?_) (fun r' h=>?_) (fun j1 h=>?_)
  ·unfold z5n at h
   rcases iteE h with ⟨k2,h⟩|⟨k2,h⟩
   ·obtain ⟨v1,k3,h⟩:=z07 h
    obtain ⟨v2,k4,h⟩:=z07 h
    obtain ⟨v3,k5,h⟩:=z07 h
    refine adv (ok X) 13 [.b true,.e (z3c v1),.e (z3c v2),.c (zhg v3)] (pA k2 (pA (ixm z3c k3) (pA (ixm z3c k4) (pA (zs8 (X:=X) k5) pT)))) (by kernel_rfl) ?_
    rcases iteE h with ⟨k6,h⟩|⟨k6,h⟩
    ·obtain rfl:=retE h
     exact fin (ok X) 4 [.b true] (pA k6 pT) (by kernel_rfl)
    ·obtain rfl:=retE h
     exact fin (ok X) 4 [.b false] (pA k6 pT) (by kernel_rfl)
   ·obtain rfl:=retE h
    exact fin (ok X) 5 [.b false] (pA k2 pT) (by kernel_rfl)
  ·obtain rfl:=retE h
   kernel_rfl
  ·obtain rfl:=retE h
   exact fin (ok X) 3 [] pT (by kernel_rfl)
theorem z7e {a0:(List ByteArray)} {a1:(List ByteArray)} {r:Bool} (h:z4m a0 a1=some r):Cv Tryz.prog (GX X) 38 [xL (List.map z1g a0),xL (List.map z1g a1)] (z44 r):=by
 refine Cs.toV (?_:Cs Tryz.prog (GX X) 38 [xL (List.map z1g a0),xL (List.map z1g a1)] [] (z44 r) (z9c r)) (by kernel_rfl)
 refine fnT (cx:=cx X) Tryz.f38 Tryz.call38 Tryz.func38 (by kernel_rfl) ?_
 unfold z4m at h
 refine adv (ok X) 5 [.i (a0.length:Int),.i (a1.length:Int)] (pA (lm z1g a0) (pA (lm z1g a1) pT)) (by kernel_rfl) ?_
 rcases iteE h with ⟨k1,h⟩|⟨k1,h⟩
 ·obtain rfl:=retE h
  exact fin (ok X) 4 [.b true] (pA k1 pT) (by kernel_rfl)
 ·refine adv (ok X) 5 [.b false,.i (a0.length:Int)] (pA k1 (pA (lm z1g a0) pT)) (by kernel_rfl) ?_
  refine lp (ok X) (z42 a0 a1) (fun (x1:Int)=>⟨26,0,[(0,[xL (List.map z1g a0)]),(1,[xL (List.map z1g a1)]),(12,[xI (a0.length:Int)]),(13,[xI x1])],[]⟩) (fun (j1:Unit)=>⟨26,0,[],[]⟩) zdk 0 (fun _=>⟨_,_,_,_,rfl⟩) h (by kernel_rfl) (fun x1 o h=>?_) (fun r' h=>?_) (fun j1 h=>?_)
  ·unfold z42 at h
   rcases iteE h with ⟨k2,h⟩|⟨k2,h⟩
   ·obtain ⟨v1,k3,h⟩:=z07 h
    obtain ⟨v2,k4,h⟩:=z07 h
    refine adv (ok X) 11 [.b true,.o [0,1,2,3,4,5,6,7,8],.e [.str v1],.e [.str v2]] (pA k2 (pA (ixm z1g k3) (pA (ixm z1g k4) pT))) (by kernel_rfl) ?_
    rcases iteE h with ⟨k5,h⟩|⟨k5,h⟩
    ·obtain rfl:=retE h
     exact fin (ok X) 4 [.b true] (pA k5 pT) (by kernel_rfl)
    ·obtain rfl:=retE h
     exact fin (ok X) 4 [.b false] (pA k5 pT) (by kernel_rfl)
   ·obtain rfl:=retE h
    exact fin (ok X) 5 [.b false] (pA k2 pT) (by kernel_rfl)
  ·obtain rfl:=retE h
   kernel_rfl
  ·obtain rfl:=retE h
   exact fin (ok X) 3 [] pT (by kernel_rfl)
theorem zok {n:Nat} (ih_ast_sameExpr:∀ (a0:z06) (a1:z06) (r:Bool),z5o n a0 a1=some r→Cv Tryz.prog (GX X) 69 [.agg (bs (z3d a0)),.agg (bs (z3d a1))] (z5g r)) (ih_ast_Expr__ast_sameExpr:∀ (a0:(List z06)) (a1:(List z06)) (r:Bool),z2n n a0 a1=some r→Cv Tryz.prog (GX X) 101 [xL (List.map z15 a0),xL (List.map z15 a1),.fn (.func 69) [] []] (z4n r)) (a0:z06) (a1:z06) (r:Bool) (h:z5o (n+1) a0 a1=some r):Cv Tryz.prog (GX X) 69 [.agg (bs (z3d a0)),.agg (bs (z3d a1))] (z5g r):=by
 refine Cs.toV (?_:Cs Tryz.prog (GX X) 69 [.agg (bs (z3d a0)),.agg (bs (z3d a1))] [] (z5g r) (zo8 r)) (by kernel_rfl)
 refine fnT (cx:=cx X) Tryz.f69 Tryz.call69 Tryz.func69 (by kernel_rfl) ?_
 rw [z5o] at h
 refine adv (ok X) 4 [] pT (by kernel_rfl) ?_
 refine jn (ok X) 1 (fun (j1:Bool)=>⟨39,0,[(2,[xP 0 0]),(3,[xP 1 0]),(33,[xB j1])],[oB 103 (bs (z3d a0)),oB 103 (bs (z3d a1))]⟩) h (fun j1 h=>?_) (fun j1 h=>?_)
 ·rcases iteE h with ⟨k1,h⟩|⟨k1,h⟩
  ·obtain rfl:=retE h
   exact fin (ok X) 1 (bT 12 []) (pR 6 k1 (pR 6 tt pT)) (by kernel_rfl)
  ·rcases iteE h with ⟨k2,h⟩|⟨k2,h⟩
   ·rcases iteE h with ⟨k3,h⟩|⟨k3,h⟩
    ·obtain rfl:=retE h
     exact fin (ok X) 1 (bF 4 (bT 5 (.b false::.b true::.b false::bT 6 []))) (pR 4 k1 (pR 5 k2 (pA k1 (pA k2 (pA k1 (pR 6 k3 pT)))))) (by kernel_rfl)
    ·rcases iteE h with ⟨k4,h⟩|⟨k4,h⟩
     ·obtain rfl:=retE h
      exact fin (ok X) 1 (bF 4 (bT 5 (.b false::.b true::bF 5 (bT 5 [.b false,.b true,.b false])))) (pR 4 k1 (pR 5 k2 (pA k1 (pA k2 (pA k1 (pR 4 k3 (pR 5 k4 (pA k3 (pA k4 (pA k3 pT)))))))))) (by kernel_rfl)
     ·obtain rfl:=retE h
      exact fin (ok X) 1 (bF 4 (bT 5 (.b false::.b true::bF 13 []))) (pR 4 k1 (pR 5 k2 (pA k1 (pA k2 (pA k1 (pR 4 k3 (pR 5 k4 (pA k3 (pA k4 (pA k3 pT)))))))))) (by kernel_rfl)
   ·rcases iteE h with ⟨k5,h⟩|⟨k5,h⟩
    ·obtain rfl:=retE h
     exact fin (ok X) 1 (bF 16 (bT 5 [.b false,.b true,.b false])) (pR 4 k1 (pR 5 k2 (pA k1 (pA k2 (pA k1 (pR 4 ff (pR 5 k5 (pA ff (pA k5 (pA ff pT)))))))))) (by kernel_rfl)
    ·obtain rfl:=retE h
     exact fin (ok X) 1 (bF 24 []) (pR 4 k1 (pR 5 k2 (pA k1 (pA k2 (pA k1 (pR 4 ff (pR 5 k5 (pA ff (pA k5 (pA ff pT)))))))))) (by kernel_rfl)
 ·rcases iteE h with ⟨k6,h⟩|⟨k6,h⟩
  ·obtain rfl:=retE h
   exact fin (ok X) 4 [.b true] (pA k6 pT) (by kernel_rfl)
  ·obtain ⟨v1,k7,h⟩:=z07 h
   obtain rfl:=retE h
   exact fin (ok X) 5 [.b false,.c (z4n v1)] (pA k6 (pA (ih_ast_Expr__ast_sameExpr _ _ _ k7) pT)) (by kernel_rfl)
theorem zft {n:Nat} (ih_ast_sameExpr:∀ (a0:z06) (a1:z06) (r:Bool),z5o n a0 a1=some r→Cv Tryz.prog (GX X) 69 [.agg (bs (z3d a0)),.agg (bs (z3d a1))] (z5g r)) (ih_ast_Expr__ast_sameExpr:∀ (a0:(List z06)) (a1:(List z06)) (r:Bool),z2n n a0 a1=some r→Cv Tryz.prog (GX X) 101 [xL (List.map z15 a0),xL (List.map z15 a1),.fn (.func 69) [] []] (z4n r)) (a0:(List z06)) (a1:(List z06)) (r:Bool) (h:z2n (n+1) a0 a1=some r):Cv Tryz.prog (GX X) 101 [xL (List.map z15 a0),xL (List.map z15 a1),.fn (.func 69) [] []] (z4n r):=by
 refine Cs.toV (?_:Cs Tryz.prog (GX X) 101 [xL (List.map z15 a0),xL (List.map z15 a1),.fn (.func 69) [] []] [] (z4n r) (zc1 r)) (by kernel_rfl)
 refine fnT (cx:=cx X) Tryz.f101 Tryz.call101 Tryz.func101 (by kernel_rfl) ?_
 rw [z2n] at h
 refine adv (ok X) 5 [.i (a0.length:Int),.i (a1.length:Int)] (pA (lm z15 a0) (pA (lm z15 a1) pT)) (by kernel_rfl) ?_
 rcases iteE h with ⟨k1,h⟩|⟨k1,h⟩
 ·obtain rfl:=retE h
  exact fin (ok X) 4 [.b true] (pA k1 pT) (by kernel_rfl)
 ·refine adv (ok X) 5 [.b false,.i (a0.length:Int)] (pA k1 (pA (lm z15 a0) pT)) (by kernel_rfl) ?_
  refine lp (ok X) (z4z (z5o n) (z2n n) a0 a1) (fun (x1:Int)=>⟨32,0,[(1,[xL (List.map z15 a1)]),(2,[.fn (.func 69) [] []]),(15,[xL (List.map z15 a0)]),(16,[xI (a0.length:Int)]),(17,[xI x1])],[]⟩) (fun (j1:Unit)=>⟨32,0,[],[]⟩) zfn 0 (fun _=>⟨_,_,_,_,rfl⟩) h (by kernel_rfl) (fun x1 o h=>?_) (fun r' h=>?_) (fun j1 h=>?_)
  ·unfold z4z at h
   rcases iteE h with ⟨k2,h⟩|⟨k2,h⟩
   ·obtain ⟨v1,k3,h⟩:=z07 h
    obtain ⟨v2,k4,h⟩:=z07 h
    obtain ⟨v3,k5,h⟩:=z07 h
    refine adv (ok X) 13 [.b true,.e (z3d v1),.e (z3d v2),.c (z5g v3)] (pA k2 (pA (ixr z5z k3) (pA (ixr z5z k4) (pA (ih_ast_sameExpr _ _ _ k5) pT)))) (by kernel_rfl) ?_
    rcases iteE h with ⟨k6,h⟩|⟨k6,h⟩
    ·obtain rfl:=retE h
     exact fin (ok X) 4 [.b true] (pA k6 pT) (by kernel_rfl)
    ·obtain rfl:=retE h
     exact fin (ok X) 4 [.b false] (pA k6 pT) (by kernel_rfl)
   ·obtain rfl:=retE h
    exact fin (ok X) 5 [.b false] (pA k2 pT) (by kernel_rfl)
  ·obtain rfl:=retE h
   kernel_rfl
  ·obtain rfl:=retE h
   exact fin (ok X) 3 [] pT (by kernel_rfl)
end Go.Proofs.YtokjbpmjdcbogaaGreatDoor.Abs

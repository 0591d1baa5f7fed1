/- Gw: the functions are these. -/
import Derived.Test.YtimbigpplbbjaaaGreatDoorGwW2
namespace Go.Proofs.YtimbigpplbbjaaaGreatDoor.Abs
open Go Go.RowKit
set_option linter.unusedVariables false
set_option maxRecDepth 100000
set_option maxHeartbeats 4000000
variable {X:EV}
theorem zk4 {n:Nat} (ih_check_looker_stmts:∀ (a0:z1q) (a1:(List z0h)) (r:Bool),z2c n a0 a1=some r→Cv Tryz.prog (GX X) 29 [.agg (bs (z1v a0)),xL (List.map z2l a1)] (z2w r)) (ih_check_looker_stmt:∀ (a0:z1q) (a1:z0h) (r:Bool),z3r n a0 a1=some r→Cv Tryz.prog (GX X) 66 [.agg (bs (z1v a0)),.agg (bs (z7i a1))] (z69 r)) (ih_check_looker_arms:∀ (a0:z1q) (a1:Int) (a2:(List z3z)) (r:Bool),z4c n a0 a1 a2=some r→Cv Tryz.prog (GX X) 107 [.agg (bs (z1v a0)),xI a1,xL (List.map z3g a2)] (z5s r)) (a0:z1q) (a1:z0h) (r:Bool) (h:z3r (n+1) a0 a1=some r):Cv Tryz.prog (GX X) 66 [.agg (bs (z1v a0)),.agg (bs (z7i a1))] (z69 r):=by
 refine Cs.toV (?_:Cs Tryz.prog (GX X) 66 [.agg (bs (z1v a0)),.agg (bs (z7i a1))] [] (z69 r) (zjq r)) (by kernel_rfl)
 refine fnT (cx:=cx X) Tryz.f66 Tryz.call66 Tryz.func66 (by kernel_rfl) ?_
 rw [z3r] at h
 obtain ⟨v1,k1,h⟩:=z07 h
 obtain ⟨v2,k2,h⟩:=z07 h
 refine adv (ok X) 9 [.o [0,1,2,3,4,5,6,7],.c (zc9 v1),.c (zg2 v2),.o [0,1,2,3,4,5,6,7,8,9],.i (a1.Body.length:Int),.i (a1.Arms.length:Int),.o [0,1,2,3,4,5,6,7,8],.i (a1.Else.length:Int)] (pA (zfo (X:=X) k1) (pA (zok (X:=X) k2) (pA (lm z2l a1.Body) (pA (lm z3g a1.Arms) (pA (lm z2l a1.Else) pT))))) (by kernel_rfl) ?_
 refine jn (ok X) 1 (fun (j1:Bool)=>⟨253,0,[(2,[xP 0 0]),(3,[xP 1 0]),(5,[xB v1]),(6,[xB v2]),(7,[xB ((a1.Body.length:Int)==0)]),(8,[xB ((a1.Arms.length:Int)==0)]),(9,[xB ((a1.Else.length:Int)==0)]),(10,[xB (a1.Var==0)]),(11,[xB j1])],[oB 110 (bs (z1v a0)),oB 188 (bs (z7i a1))]⟩) h (fun j1 h=>?_) (fun j1 h=>?_)
 ·rcases iteE h with ⟨k3,h⟩|⟨k3,h⟩
  ·obtain rfl:=retE h
   exact fin (ok X) 1 (bT 4 []) (pR 4 k3 pT) (by kernel_rfl)
  ·obtain rfl:=retE h
   exact fin (ok X) 1 (bF 4 []) (pR 4 k3 pT) (by kernel_rfl)
 ·rcases iteE h with ⟨k4,h⟩|⟨k4,h⟩
  ·refine adv (ok X) 8 [.b true] (pA k4 pT) (by kernel_rfl) ?_
   refine jn (ok X) 1 (fun (j2:Bool)=>⟨253,0,[(4,[xB j2])],[]⟩) h (fun j2 h=>?_) (fun j2 h=>?_)
   ·rcases iteE h with ⟨k5,h⟩|⟨k5,h⟩
    ·rcases iteE h with ⟨k6,h⟩|⟨k6,h⟩
     ·rcases iteE h with ⟨k7,h⟩|⟨k7,h⟩
      ·rcases iteE h with ⟨k8,h⟩|⟨k8,h⟩
       ·rcases iteE h with ⟨k9,h⟩|⟨k9,h⟩
        ·obtain ⟨v3,k10,h⟩:=z07 h
         rcases iteE h with ⟨k11,h⟩|⟨k11,h⟩
         ·obtain ⟨v4,k12,h⟩:=z07 h
          obtain rfl:=retE h
          exact fin (ok X) 1 (bT 14 (.c (z16 v3)::bT 6 [.c (z6w v4),.b true])) (pA k5 (pA k5 (pA k6 (pA k6 (pA k7 (pA k7 (pA k8 (pA k8 (pR 6 k9 (pA (z1d (X:=X) k10) (pA k9 (pR 5 k11 (pA (zdr (X:=X) k12) (pA k11 pT)))))))))))))) (by kernel_rfl)
         ·obtain rfl:=retE h
          exact fin (ok X) 1 (bT 14 (.c (z16 v3)::.b true::bF 6 [])) (pA k5 (pA k5 (pA k6 (pA k6 (pA k7 (pA k7 (pA k8 (pA k8 (pR 6 k9 (pA (z1d (X:=X) k10) (pA k9 (pR 6 k11 pT)))))))))))) (by kernel_rfl)
        ·obtain rfl:=retE h
         exact fin (ok X) 1 (bT 8 (bF 13 [])) (pA k5 (pA k5 (pA k6 (pA k6 (pA k7 (pA k7 (pA k8 (pA k8 (pR 7 k9 (pR 6 ff pT)))))))))) (by kernel_rfl)
       ·obtain rfl:=retE h
        exact fin (ok X) 1 (bT 6 (bF 15 [])) (pA k5 (pA k5 (pA k6 (pA k6 (pA k7 (pA k7 (pA k8 (pA k8 (pR 13 ff pT))))))))) (by kernel_rfl)
      ·obtain rfl:=retE h
       exact fin (ok X) 1 (bT 4 (bF 17 [])) (pA k5 (pA k5 (pA k6 (pA k6 (pA k7 (pA k7 (pR 15 ff pT))))))) (by kernel_rfl)
     ·obtain rfl:=retE h
      exact fin (ok X) 1 (.b true::.b true::bF 19 []) (pA k5 (pA k5 (pA k6 (pA k6 (pR 17 ff pT))))) (by kernel_rfl)
    ·obtain rfl:=retE h
     exact fin (ok X) 1 (bF 21 []) (pA k5 (pA k5 (pR 19 ff pT))) (by kernel_rfl)
   ·obtain rfl:=retE h
    exact fin (ok X) 1 [] pT (by kernel_rfl)
  ·refine adv (ok X) 9 [.b false] (pA k4 pT) (by kernel_rfl) ?_
   rcases iteE h with ⟨k13,h⟩|⟨k13,h⟩
   ·refine adv (ok X) 2 [.b true] (pA k13 pT) (by kernel_rfl) ?_
    refine jn (ok X) 1 (fun (j3:Bool)=>⟨253,0,[(4,[xB j3])],[]⟩) h (fun j3 h=>?_) (fun j3 h=>?_)
    ·rcases iteE h with ⟨k14,h⟩|⟨k14,h⟩
     ·rcases iteE h with ⟨k15,h⟩|⟨k15,h⟩
      ·rcases iteE h with ⟨k16,h⟩|⟨k16,h⟩
       ·rcases iteE h with ⟨k17,h⟩|⟨k17,h⟩
        ·rcases iteE h with ⟨k18,h⟩|⟨k18,h⟩
         ·rcases iteE h with ⟨k19,h⟩|⟨k19,h⟩
          ·obtain ⟨v5,k20,h⟩:=z07 h
           obtain rfl:=retE h
           exact fin (ok X) 1 (bT 16 [.c (z16 v5),.b true]) (pA k14 (pA k14 (pA k15 (pA k15 (pA k16 (pA k16 (pA k17 (pA k17 (pA k18 (pA k18 (pR 6 k19 (pA (z1d (X:=X) k20) (pA k19 pT))))))))))))) (by kernel_rfl)
          ·obtain rfl:=retE h
           exact fin (ok X) 1 (bT 10 (bF 7 [])) (pA k14 (pA k14 (pA k15 (pA k15 (pA k16 (pA k16 (pA k17 (pA k17 (pA k18 (pA k18 (pR 7 k19 pT))))))))))) (by kernel_rfl)
         ·obtain rfl:=retE h
          exact fin (ok X) 1 (bT 8 (bF 9 [])) (pA k14 (pA k14 (pA k15 (pA k15 (pA k16 (pA k16 (pA k17 (pA k17 (pA k18 (pA k18 (pR 7 ff pT))))))))))) (by kernel_rfl)
        ·obtain rfl:=retE h
         exact fin (ok X) 1 (bT 6 (bF 11 [])) (pA k14 (pA k14 (pA k15 (pA k15 (pA k16 (pA k16 (pA k17 (pA k17 (pR 9 ff pT))))))))) (by kernel_rfl)
       ·obtain rfl:=retE h
        exact fin (ok X) 1 (bT 4 (bF 13 [])) (pA k14 (pA k14 (pA k15 (pA k15 (pA k16 (pA k16 (pR 11 ff pT))))))) (by kernel_rfl)
      ·obtain rfl:=retE h
       exact fin (ok X) 1 (.b true::.b true::bF 15 []) (pA k14 (pA k14 (pA k15 (pA k15 (pR 13 ff pT))))) (by kernel_rfl)
     ·obtain rfl:=retE h
      exact fin (ok X) 1 (bF 17 []) (pA k14 (pA k14 (pR 15 ff pT))) (by kernel_rfl)
    ·obtain rfl:=retE h
     exact fin (ok X) 1 [] pT (by kernel_rfl)
   ·refine adv (ok X) 3 [.b false] (pA k13 pT) (by kernel_rfl) ?_
    rcases iteE h with ⟨k21,h⟩|⟨k21,h⟩
    ·refine adv (ok X) 2 [.b true] (pA k21 pT) (by kernel_rfl) ?_
     refine jn (ok X) 1 (fun (j4:Bool)=>⟨253,0,[(4,[xB j4])],[]⟩) h (fun j4 h=>?_) (fun j4 h=>?_)
     ·rcases iteE h with ⟨k22,h⟩|⟨k22,h⟩
      ·rcases iteE h with ⟨k23,h⟩|⟨k23,h⟩
       ·rcases iteE h with ⟨k24,h⟩|⟨k24,h⟩
        ·rcases iteE h with ⟨k25,h⟩|⟨k25,h⟩
         ·rcases iteE h with ⟨k26,h⟩|⟨k26,h⟩
          ·rcases iteE h with ⟨k27,h⟩|⟨k27,h⟩
           ·obtain ⟨v6,k28,h⟩:=z07 h
            obtain rfl:=retE h
            exact fin (ok X) 1 (bT 15 [.c (z9m v6),.b true]) (pA k22 (pA k22 (pA k23 (pA k23 (pA k24 (pA k24 (pA k25 (pA k25 (pA k26 (pA k26 (pR 5 k27 (pA (zcb (X:=X) k28) (pA k27 pT))))))))))))) (by kernel_rfl)
           ·obtain rfl:=retE h
            exact fin (ok X) 1 (bT 10 (bF 6 [])) (pA k22 (pA k22 (pA k23 (pA k23 (pA k24 (pA k24 (pA k25 (pA k25 (pA k26 (pA k26 (pR 6 k27 pT))))))))))) (by kernel_rfl)
          ·obtain rfl:=retE h
           exact fin (ok X) 1 (bT 8 (bF 8 [])) (pA k22 (pA k22 (pA k23 (pA k23 (pA k24 (pA k24 (pA k25 (pA k25 (pA k26 (pA k26 (pR 6 ff pT))))))))))) (by kernel_rfl)
         ·obtain rfl:=retE h
          exact fin (ok X) 1 (bT 6 (bF 10 [])) (pA k22 (pA k22 (pA k23 (pA k23 (pA k24 (pA k24 (pA k25 (pA k25 (pR 8 ff pT))))))))) (by kernel_rfl)
        ·obtain rfl:=retE h
         exact fin (ok X) 1 (bT 4 (bF 12 [])) (pA k22 (pA k22 (pA k23 (pA k23 (pA k24 (pA k24 (pR 10 ff pT))))))) (by kernel_rfl)
       ·obtain rfl:=retE h
        exact fin (ok X) 1 (.b true::.b true::bF 14 []) (pA k22 (pA k22 (pA k23 (pA k23 (pR 12 ff pT))))) (by kernel_rfl)
      ·obtain rfl:=retE h
       exact fin (ok X) 1 (bF 16 []) (pA k22 (pA k22 (pR 14 ff pT))) (by kernel_rfl)
     ·obtain rfl:=retE h
      exact fin (ok X) 1 [] pT (by kernel_rfl)
    ·refine adv (ok X) 3 [.b false] (pA k21 pT) (by kernel_rfl) ?_
     rcases iteE h with ⟨k29,h⟩|⟨k29,h⟩
     ·refine adv (ok X) 2 [.b true] (pA k29 pT) (by kernel_rfl) ?_
      refine jn (ok X) 1 (fun (j5:Bool)=>⟨253,0,[(4,[xB j5])],[]⟩) h (fun j5 h=>?_) (fun j5 h=>?_)
      ·rcases iteE h with ⟨k30,h⟩|⟨k30,h⟩
       ·rcases iteE h with ⟨k31,h⟩|⟨k31,h⟩
        ·rcases iteE h with ⟨k32,h⟩|⟨k32,h⟩
         ·rcases iteE h with ⟨k33,h⟩|⟨k33,h⟩
          ·rcases iteE h with ⟨k34,h⟩|⟨k34,h⟩
           ·obtain ⟨v7,k35,h⟩:=z07 h
            rcases iteE h with ⟨k36,h⟩|⟨k36,h⟩
            ·obtain ⟨v8,k37,h⟩:=z07 h
             obtain rfl:=retE h
             exact fin (ok X) 1 (bT 13 (.c (z9m v7)::bT 5 [.c (z2w v8),.b true])) (pA k30 (pA k30 (pA k31 (pA k31 (pA k32 (pA k32 (pA k33 (pA k33 (pR 5 k34 (pA (zcb (X:=X) k35) (pA k34 (pR 4 k36 (pA (ih_check_looker_stmts _ _ _ k37) (pA k36 pT)))))))))))))) (by kernel_rfl)
            ·obtain rfl:=retE h
             exact fin (ok X) 1 (bT 13 (.c (z9m v7)::.b true::bF 5 [])) (pA k30 (pA k30 (pA k31 (pA k31 (pA k32 (pA k32 (pA k33 (pA k33 (pR 5 k34 (pA (zcb (X:=X) k35) (pA k34 (pR 5 k36 pT)))))))))))) (by kernel_rfl)
           ·obtain rfl:=retE h
            exact fin (ok X) 1 (bT 8 (bF 11 [])) (pA k30 (pA k30 (pA k31 (pA k31 (pA k32 (pA k32 (pA k33 (pA k33 (pR 6 k34 (pR 5 ff pT)))))))))) (by kernel_rfl)
          ·obtain rfl:=retE h
           exact fin (ok X) 1 (bT 6 (bF 13 [])) (pA k30 (pA k30 (pA k31 (pA k31 (pA k32 (pA k32 (pA k33 (pA k33 (pR 11 ff pT))))))))) (by kernel_rfl)
         ·obtain rfl:=retE h
          exact fin (ok X) 1 (bT 4 (bF 15 [])) (pA k30 (pA k30 (pA k31 (pA k31 (pA k32 (pA k32 (pR 13 ff pT))))))) (by kernel_rfl)
        ·obtain rfl:=retE h
         exact fin (ok X) 1 (.b true::.b true::bF 17 []) (pA k30 (pA k30 (pA k31 (pA k31 (pR 15 ff pT))))) (by kernel_rfl)
       ·obtain rfl:=retE h
        exact fin (ok X) 1 (bF 19 []) (pA k30 (pA k30 (pR 17 ff pT))) (by kernel_rfl)
      ·obtain rfl:=retE h
       exact fin (ok X) 1 [] pT (by kernel_rfl)
     ·refine adv (ok X) 3 [.b false] (pA k29 pT) (by kernel_rfl) ?_
      rcases iteE h with ⟨k38,h⟩|⟨k38,h⟩
      ·refine adv (ok X) 2 [.b true] (pA k38 pT) (by kernel_rfl) ?_
       refine jn (ok X) 1 (fun (j6:Bool)=>⟨253,0,[(4,[xB j6])],[]⟩) h (fun j6 h=>?_) (fun j6 h=>?_)
       ·rcases iteE h with ⟨k39,h⟩|⟨k39,h⟩
        ·rcases iteE h with ⟨k40,h⟩|⟨k40,h⟩
         ·rcases iteE h with ⟨k41,h⟩|⟨k41,h⟩
          ·rcases iteE h with ⟨k42,h⟩|⟨k42,h⟩
           ·obtain ⟨v9,k43,h⟩:=z07 h
            rcases iteE h with ⟨k44,h⟩|⟨k44,h⟩
            ·obtain ⟨v10,k45,h⟩:=z07 h
             rcases iteE h with ⟨k46,h⟩|⟨k46,h⟩
             ·obtain ⟨v11,k47,h⟩:=z07 h
              obtain rfl:=retE h
              exact fin (ok X) 1 (bT 11 (.c (z9m v9)::bT 5 (.c (z2w v10)::bT 5 [.c (z2w v11),.b true]))) (pA k39 (pA k39 (pA k40 (pA k40 (pA k41 (pA k41 (pR 5 k42 (pA (zcb (X:=X) k43) (pA k42 (pR 4 k44 (pA (ih_check_looker_stmts _ _ _ k45) (pA k44 (pR 4 k46 (pA (ih_check_looker_stmts _ _ _ k47) (pA k46 pT))))))))))))))) (by kernel_rfl)
             ·obtain rfl:=retE h
              exact fin (ok X) 1 (bT 11 (.c (z9m v9)::bT 5 (.c (z2w v10)::.b true::bF 5 []))) (pA k39 (pA k39 (pA k40 (pA k40 (pA k41 (pA k41 (pR 5 k42 (pA (zcb (X:=X) k43) (pA k42 (pR 4 k44 (pA (ih_check_looker_stmts _ _ _ k45) (pA k44 (pR 5 k46 pT))))))))))))) (by kernel_rfl)
            ·obtain rfl:=retE h
             exact fin (ok X) 1 (bT 11 (.c (z9m v9)::.b true::bF 10 [])) (pA k39 (pA k39 (pA k40 (pA k40 (pA k41 (pA k41 (pR 5 k42 (pA (zcb (X:=X) k43) (pA k42 (pR 5 k44 (pR 5 ff pT))))))))))) (by kernel_rfl)
           ·obtain rfl:=retE h
            exact fin (ok X) 1 (bT 6 (bF 16 [])) (pA k39 (pA k39 (pA k40 (pA k40 (pA k41 (pA k41 (pR 6 k42 (pR 10 ff pT)))))))) (by kernel_rfl)
          ·obtain rfl:=retE h
           exact fin (ok X) 1 (bT 4 (bF 18 [])) (pA k39 (pA k39 (pA k40 (pA k40 (pA k41 (pA k41 (pR 16 ff pT))))))) (by kernel_rfl)
         ·obtain rfl:=retE h
          exact fin (ok X) 1 (.b true::.b true::bF 20 []) (pA k39 (pA k39 (pA k40 (pA k40 (pR 18 ff pT))))) (by kernel_rfl)
        ·obtain rfl:=retE h
         exact fin (ok X) 1 (bF 22 []) (pA k39 (pA k39 (pR 20 ff pT))) (by kernel_rfl)
       ·obtain rfl:=retE h
        exact fin (ok X) 1 [] pT (by kernel_rfl)
      ·refine adv (ok X) 3 [.b false] (pA k38 pT) (by kernel_rfl) ?_
       rcases iteE h with ⟨k48,h⟩|⟨k48,h⟩
       ·refine adv (ok X) 2 [.b true] (pA k48 pT) (by kernel_rfl) ?_
        refine jn (ok X) 1 (fun (j7:Bool)=>⟨253,0,[(4,[xB j7])],[]⟩) h (fun j7 h=>?_) (fun j7 h=>?_)
        ·rcases iteE h with ⟨k49,h⟩|⟨k49,h⟩
         ·rcases iteE h with ⟨k50,h⟩|⟨k50,h⟩
          ·rcases iteE h with ⟨k51,h⟩|⟨k51,h⟩
           ·rcases iteE h with ⟨k52,h⟩|⟨k52,h⟩
            ·rcases iteE h with ⟨k53,h⟩|⟨k53,h⟩
             ·obtain ⟨v12,k54,h⟩:=z07 h
              rcases iteE h with ⟨k55,h⟩|⟨k55,h⟩
              ·obtain ⟨v13,k56,h⟩:=z07 h
               rcases iteE h with ⟨k57,h⟩|⟨k57,h⟩
               ·obtain ⟨v14,k58,h⟩:=z07 h
                obtain rfl:=retE h
                exact fin (ok X) 1 (bT 12 (.c (z5a v12)::bT 7 (.c (z61 v13)::bT 6 [.c (z6w v14),.b true]))) (pA k49 (pA k49 (pA k50 (pA k50 (pA k51 (pA k51 (pA k52 (pA k52 (pR 4 k53 (pA (z7w (X:=X) k54) (pA k53 (pR 6 k55 (pA (z7u (X:=X) k56) (pA k55 (pR 5 k57 (pA (zdr (X:=X) k58) (pA k57 pT))))))))))))))))) (by kernel_rfl)
               ·obtain rfl:=retE h
                exact fin (ok X) 1 (bT 12 (.c (z5a v12)::bT 7 (.c (z61 v13)::.b true::bF 6 []))) (pA k49 (pA k49 (pA k50 (pA k50 (pA k51 (pA k51 (pA k52 (pA k52 (pR 4 k53 (pA (z7w (X:=X) k54) (pA k53 (pR 6 k55 (pA (z7u (X:=X) k56) (pA k55 (pR 6 k57 pT))))))))))))))) (by kernel_rfl)
              ·obtain rfl:=retE h
               exact fin (ok X) 1 (bT 12 (.c (z5a v12)::.b true::bF 13 [])) (pA k49 (pA k49 (pA k50 (pA k50 (pA k51 (pA k51 (pA k52 (pA k52 (pR 4 k53 (pA (z7w (X:=X) k54) (pA k53 (pR 7 k55 (pR 6 ff pT))))))))))))) (by kernel_rfl)
             ·obtain rfl:=retE h
              exact fin (ok X) 1 (bT 8 (bF 18 [])) (pA k49 (pA k49 (pA k50 (pA k50 (pA k51 (pA k51 (pA k52 (pA k52 (pR 5 k53 (pR 13 ff pT)))))))))) (by kernel_rfl)
            ·obtain rfl:=retE h
             exact fin (ok X) 1 (bT 6 (bF 20 [])) (pA k49 (pA k49 (pA k50 (pA k50 (pA k51 (pA k51 (pA k52 (pA k52 (pR 18 ff pT))))))))) (by kernel_rfl)
           ·obtain rfl:=retE h
            exact fin (ok X) 1 (bT 4 (bF 22 [])) (pA k49 (pA k49 (pA k50 (pA k50 (pA k51 (pA k51 (pR 20 ff pT))))))) (by kernel_rfl)
          ·obtain rfl:=retE h
           exact fin (ok X) 1 (.b true::.b true::bF 24 []) (pA k49 (pA k49 (pA k50 (pA k50 (pR 22 ff pT))))) (by kernel_rfl)
         ·obtain rfl:=retE h
          exact fin (ok X) 1 (bF 26 []) (pA k49 (pA k49 (pR 24 ff pT))) (by kernel_rfl)
        ·obtain rfl:=retE h
         exact fin (ok X) 1 [] pT (by kernel_rfl)
       ·refine adv (ok X) 3 [.b false] (pA k48 pT) (by kernel_rfl) ?_
        rcases iteE h with ⟨k59,h⟩|⟨k59,h⟩
        ·refine adv (ok X) 2 [.b true] (pA k59 pT) (by kernel_rfl) ?_
         refine jn (ok X) 1 (fun (j8:Bool)=>⟨253,0,[(4,[xB j8])],[]⟩) h (fun j8 h=>?_) (fun j8 h=>?_)
         ·rcases iteE h with ⟨k60,h⟩|⟨k60,h⟩
          ·rcases iteE h with ⟨k61,h⟩|⟨k61,h⟩
           ·rcases iteE h with ⟨k62,h⟩|⟨k62,h⟩
            ·rcases iteE h with ⟨k63,h⟩|⟨k63,h⟩
             ·rcases iteE h with ⟨k64,h⟩|⟨k64,h⟩
              ·rcases iteE h with ⟨k65,h⟩|⟨k65,h⟩
               ·obtain ⟨v15,k66,h⟩:=z07 h
                rcases iteE h with ⟨k67,h⟩|⟨k67,h⟩
                ·obtain ⟨v16,k68,h⟩:=z07 h
                 obtain rfl:=retE h
                 exact fin (ok X) 1 (bT 16 (.c (z6p v15)::bT 7 [.c (z5s v16),.b true])) (pA k60 (pA k60 (pA k61 (pA k61 (pA k62 (pA k62 (pA k63 (pA k63 (pR 4 k64 (pR 4 k65 (pA (zam (X:=X) k66) (pA k65 (pR 6 k67 (pA (ih_check_looker_arms _ _ _ _ k68) (pA k67 pT))))))))))))))) (by kernel_rfl)
                ·obtain rfl:=retE h
                 exact fin (ok X) 1 (bT 16 (.c (z6p v15)::.b true::bF 7 [])) (pA k60 (pA k60 (pA k61 (pA k61 (pA k62 (pA k62 (pA k63 (pA k63 (pR 4 k64 (pR 4 k65 (pA (zam (X:=X) k66) (pA k65 (pR 7 k67 pT))))))))))))) (by kernel_rfl)
               ·obtain rfl:=retE h
                exact fin (ok X) 1 (bT 12 (bF 12 [])) (pA k60 (pA k60 (pA k61 (pA k61 (pA k62 (pA k62 (pA k63 (pA k63 (pR 4 k64 (pR 5 k65 (pR 7 ff pT))))))))))) (by kernel_rfl)
              ·obtain rfl:=retE h
               exact fin (ok X) 1 (bT 8 (bF 16 [])) (pA k60 (pA k60 (pA k61 (pA k61 (pA k62 (pA k62 (pA k63 (pA k63 (pR 4 k64 (pR 12 ff pT)))))))))) (by kernel_rfl)
             ·obtain rfl:=retE h
              exact fin (ok X) 1 (bT 6 (bF 18 [])) (pA k60 (pA k60 (pA k61 (pA k61 (pA k62 (pA k62 (pA k63 (pA k63 (pR 16 ff pT))))))))) (by kernel_rfl)
            ·obtain rfl:=retE h
             exact fin (ok X) 1 (bT 4 (bF 20 [])) (pA k60 (pA k60 (pA k61 (pA k61 (pA k62 (pA k62 (pR 18 ff pT))))))) (by kernel_rfl)
           ·obtain rfl:=retE h
            exact fin (ok X) 1 (.b true::.b true::bF 22 []) (pA k60 (pA k60 (pA k61 (pA k61 (pR 20 ff pT))))) (by kernel_rfl)
          ·obtain rfl:=retE h
           exact fin (ok X) 1 (bF 24 []) (pA k60 (pA k60 (pR 22 ff pT))) (by kernel_rfl)
         ·obtain rfl:=retE h
          exact fin (ok X) 1 [] pT (by kernel_rfl)
        ·obtain rfl:=retE h
         exact fin (ok X) 6 [.b false] (pA k59 pT) (by kernel_rfl)
theorem zk5 {n:Nat} (ih_check_looker_stmts:∀ (a0:z1q) (a1:(List z0h)) (r:Bool),z2c n a0 a1=some r→Cv Tryz.prog (GX X) 29 [.agg (bs (z1v a0)),xL (List.map z2l a1)] (z2w r)) (ih_check_looker_stmt:∀ (a0:z1q) (a1:z0h) (r:Bool),z3r n a0 a1=some r→Cv Tryz.prog (GX X) 66 [.agg (bs (z1v a0)),.agg (bs (z7i a1))] (z69 r)) (ih_check_looker_arms:∀ (a0:z1q) (a1:Int) (a2:(List z3z)) (r:Bool),z4c n a0 a1 a2=some r→Cv Tryz.prog (GX X) 107 [.agg (bs (z1v a0)),xI a1,xL (List.map z3g a2)] (z5s r)) (a0:z1q) (a1:Int) (a2:(List z3z)) (r:Bool) (h:z4c (n+1) a0 a1 a2=some r):Cv Tryz.prog (GX X) 107 [.agg (bs (z1v a0)),xI a1,xL (List.map z3g a2)] (z5s r):=by
 refine Cs.toV (?_:Cs Tryz.prog (GX X) 107 [.agg (bs (z1v a0)),xI a1,xL (List.map z3g a2)] [] (z5s r) (zew r)) (by kernel_rfl)
 refine fnT (cx:=cx X) Tryz.f107 Tryz.call107 Tryz.func107 (by kernel_rfl) ?_
 rw [z4c] at h
 refine adv (ok X) 7 [.i (a2.length:Int)] (pA (lm z3g a2) pT) (by kernel_rfl) ?_
 refine lp (ok X) (zba (z2c n) (z3r n) (z4c n) a0 a1 a2) (fun (x1:(Int × Bool × Bool × Bool × Bool))=>⟨51,0,[(1,[xI a1]),(2,[xL (List.map z3g a2)]),(3,[xP 0 0]),(7,[xP 1 0]),(10,[xL (List.map z3g a2)]),(11,[xI (a2.length:Int)]),(12,[xI x1.1])],[oB 110 (bs (z1v a0)),oB 243 (bs (zp3 (arr false [x1.2.1,x1.2.2.1,x1.2.2.2.1,x1.2.2.2.2])))]⟩) (fun (j1:Unit)=>⟨51,0,[(2,[xL (List.map z3g a2)])],[]⟩) zjr (0,false,false,false,false) (fun _=>⟨_,_,_,_,rfl⟩) h (by kernel_rfl) (fun x1 o h=>?_) (fun r' h=>?_) (fun j1 h=>?_)
 ·unfold zba at h
  rcases iteE h with ⟨k1,h⟩|⟨k1,h⟩
  ·obtain ⟨v1,k2,h⟩:=z07 h
   refine adv (ok X) 11 [.b true,.e (znr v1)] (pA k1 (pA (ixr zfy k2) pT)) (by kernel_rfl) ?_
   refine jn (ok X) 1 (fun (j2:Bool)=>⟨51,0,[(1,[xI a1]),(2,[xL (List.map z3g a2)]),(3,[xP 0 0]),(7,[xP 1 0]),(9,[xP 2 0]),(10,[xL (List.map z3g a2)]),(11,[xI (a2.length:Int)]),(12,[xI x1.1]),(43,[xB j2])],[oB 110 (bs (z1v a0)),oB 243 (bs (zp3 (arr false [x1.2.1,x1.2.2.1,x1.2.2.2.1,x1.2.2.2.2]))),oB 192 (bs (znr v1))]⟩) h (fun j2 h=>?_) (fun j2 h=>?_)
   ·obtain ⟨v2,k3,h⟩:=z07 h
    rcases iteE h with ⟨k4,h⟩|⟨k4,h⟩
    ·obtain rfl:=retE h
     exact fin (ok X) 1 (.c (z61 v2)::bT 19 []) (pA (z7u (X:=X) k3) (pR 5 k4 (pR 14 tt pT))) (by kernel_rfl)
    ·obtain ⟨v3,k5,h⟩:=z07 h
     rcases iteE h with ⟨k6,h⟩|⟨k6,h⟩
     ·obtain rfl:=retE h
      exact fin (ok X) 1 (.c (z61 v2)::bF 3 (.n v3::.b false::.ld [xB ((arr false [x1.2.1,x1.2.2.1,x1.2.2.2.1,x1.2.2.2.2]) v3)]::.b false::bT 14 [])) (pA (z7u (X:=X) k3) (pR 3 k4 (pA k5 (pA k4 (pA (zpx (arr false [x1.2.1,x1.2.2.1,x1.2.2.2.1,x1.2.2.2.2]) (zhn k5)) (pA k4 (pR 8 k6 (pR 6 tt pT)))))))) (by kernel_rfl)
     ·obtain ⟨v4,k7,h⟩:=z07 h
      rcases iteE h with ⟨k8,h⟩|⟨k8,h⟩
      ·obtain rfl:=retE h
       exact fin (ok X) 1 (.c (z61 v2)::bF 3 (.n v3::.b false::.ld [xB ((arr false [x1.2.1,x1.2.2.1,x1.2.2.2.1,x1.2.2.2.2]) v3)]::bF 7 (.c (z16 v4)::.b false::.b false::bT 6 []))) (pA (z7u (X:=X) k3) (pR 3 k4 (pA k5 (pA k4 (pA (zpx (arr false [x1.2.1,x1.2.2.1,x1.2.2.2.1,x1.2.2.2.2]) (zhn k5)) (pA k4 (pR 6 k6 (pA (z1d (X:=X) k7) (pA k6 (pA k6 (pR 6 k8 pT))))))))))) (by kernel_rfl)
      ·obtain ⟨v5,k9,h⟩:=z07 h
       obtain rfl:=retE h
       exact fin (ok X) 1 (.c (z61 v2)::bF 3 (.n v3::.b false::.ld [xB ((arr false [x1.2.1,x1.2.2.1,x1.2.2.2.1,x1.2.2.2.2]) v3)]::bF 7 (.c (z16 v4)::bF 6 [.c (z2w v5),.b false,.b false]))) (pA (z7u (X:=X) k3) (pR 3 k4 (pA k5 (pA k4 (pA (zpx (arr false [x1.2.1,x1.2.2.1,x1.2.2.2.1,x1.2.2.2.2]) (zhn k5)) (pA k4 (pR 6 k6 (pA (z1d (X:=X) k7) (pA k6 (pA k6 (pR 4 k8 (pA (ih_check_looker_stmts _ _ _ k9) (pA k8 (pA k8 pT)))))))))))))) (by kernel_rfl)
   ·rcases iteE h with ⟨k10,h⟩|⟨k10,h⟩
    ·obtain rfl:=retE h
     exact fin (ok X) 4 [.b true] (pA k10 pT) (by kernel_rfl)
    ·obtain ⟨v6,k11,h⟩:=z07 h
     obtain ⟨v7,k12,h⟩:=z07 h
     obtain rfl:=retE h
     exact fin (ok X) 5 [.b false,.n v6,.sc (bs (zp3 v7))] (pA k10 (pA k11 (pA (retE k12 ▸ z01n (arr false [x1.2.1,x1.2.2.1,x1.2.2.2.1,x1.2.2.2.2]) true (zhn k11)) pT))) (by kernel_rfl)
  ·obtain rfl:=retE h
   exact fin (ok X) 5 [.b false] (pA k1 pT) (by kernel_rfl)
 ·obtain rfl:=retE h
  kernel_rfl
 ·obtain rfl:=retE h
  exact fin (ok X) 3 [.i (a2.length:Int)] (pA (lm z3g a2) pT) (by kernel_rfl)
theorem zcw:∀ n:Nat,(∀ (a0:z1q) (a1:(List z0h)) (r:Bool),z2c n a0 a1=some r→Cv Tryz.prog (GX X) 29 [.agg (bs (z1v a0)),xL (List.map z2l a1)] (z2w r))∧(∀ (a0:z1q) (a1:z0h) (r:Bool),z3r n a0 a1=some r→Cv Tryz.prog (GX X) 66 [.agg (bs (z1v a0)),.agg (bs (z7i a1))] (z69 r))∧(∀ (a0:z1q) (a1:Int) (a2:(List z3z)) (r:Bool),z4c n a0 a1 a2=some r→Cv Tryz.prog (GX X) 107 [.agg (bs (z1v a0)),xI a1,xL (List.map z3g a2)] (z5s r))
 | 0=>⟨(fun _ _ _ h=>by rw [z2c] at h;cases h),(fun _ _ _ h=>by rw [z3r] at h;cases h),(fun _ _ _ _ h=>by rw [z4c] at h;cases h)⟩
 | n+1=>by
  have ih:=zcw n
  exact ⟨ziw ih.1 ih.2.1 ih.2.2,zk4 ih.1 ih.2.1 ih.2.2,zk5 ih.1 ih.2.1 ih.2.2⟩
theorem zix {a0:z1q} {a1:(List z0h)} {r:Bool} (h:z7t a0 a1=some r):Cv Tryz.prog (GX X) 29 [.agg (bs (z1v a0)),xL (List.map z2l a1)] (z2w r):=by
 obtain ⟨n,hn⟩:=unfE h
 exact (zcw n).1 _ _ _ hn
theorem zh1 {a0:z18} {r:Bool} (h:z9t a0=some r):Cv Tryz.prog (GX X) 10 [.agg (bs (z7h a0))] (zb2 r):=by
 refine Cs.toV (?_:Cs Tryz.prog (GX X) 10 [.agg (bs (z7h a0))] [] (zb2 r) (zkr r)) (by kernel_rfl)
 refine fnT (cx:=cx X) Tryz.f10 Tryz.call10 Tryz.func10 (by kernel_rfl) ?_
 unfold z9t at h
 refine adv (ok X) 4 [] pT (by kernel_rfl) ?_
 refine jn (ok X) 1 (fun (j1:Bool)=>⟨56,0,[(1,[xP 0 0]),(17,[xB j1])],[oB 57 (bs (z7h a0))]⟩) h (fun j1 h=>?_) (fun j1 h=>?_)
 ·rcases iteE h with ⟨k1,h⟩|⟨k1,h⟩
  ·obtain rfl:=retE h
   exact fin (ok X) 1 (.i (a0.Chans.length:Int)::bT 6 []) (pA (lm z0m a0.Chans) (pR 6 k1 pT)) (by kernel_rfl)
  ·obtain ⟨v1,k2,h⟩:=z07 h
   obtain rfl:=retE h
   exact fin (ok X) 1 (.i (a0.Chans.length:Int)::bF 3 [.i (a0.Procs.length:Int),.b false,.c (z16 v1),.b false,.b false]) (pA (lm z0m a0.Chans) (pR 3 k1 (pA (lm z0b a0.Procs) (pA k1 (pA (z1d (X:=X) k2) (pA k1 (pA k1 pT))))))) (by kernel_rfl)
 ·rcases iteE h with ⟨k3,h⟩|⟨k3,h⟩
  ·obtain rfl:=retE h
   exact fin (ok X) 4 [.b true] (pA k3 pT) (by kernel_rfl)
  ·refine adv (ok X) 5 [.b false,.i (a0.Chans.length:Int)] (pA k3 (pA (lm z0m a0.Chans) pT)) (by kernel_rfl) ?_
   refine lp (ok X) (zbe a0) (fun (x2:Int)=>⟨56,0,[(1,[xP 0 0]),(19,[xL (List.map z0m a0.Chans)]),(20,[xI (a0.Chans.length:Int)]),(21,[xI x2])],[oB 57 (bs (z7h a0))]⟩) (fun (j2:Unit)=>⟨56,0,[(1,[xP 0 0])],[oB 57 (bs (z7h a0))]⟩) zks 0 (fun _=>⟨_,_,_,_,rfl⟩) h (by kernel_rfl) (fun x2 o h=>?_) (fun r' h=>?_) (fun j2 h=>?_)
   ·unfold zbe at h
    rcases iteE h with ⟨k4,h⟩|⟨k4,h⟩
    ·obtain ⟨v2,k5,h⟩:=z07 h
     obtain ⟨v3,k6,h⟩:=z07 h
     refine adv (ok X) 11 [.b true,.e (z0m v2),.i (a0.Procs.length:Int),.c (zeu v3)] (pA k4 (pA (ixm z0m k5) (pA (lm z0b a0.Procs) (pA (zo1 (X:=X) k6) pT)))) (by kernel_rfl) ?_
     rcases iteE h with ⟨k7,h⟩|⟨k7,h⟩
     ·obtain rfl:=retE h
      exact fin (ok X) 4 [.b true] (pA k7 pT) (by kernel_rfl)
     ·obtain rfl:=retE h
      exact fin (ok X) 4 [.b false] (pA k7 pT) (by kernel_rfl)
    ·obtain rfl:=retE h
     exact fin (ok X) 5 [.b false] (pA k4 pT) (by kernel_rfl)
   ·obtain rfl:=retE h
    kernel_rfl
   ·refine adv (ok X) 3 [.i (a0.Procs.length:Int)] (pA (lm z0b a0.Procs) pT) (by kernel_rfl) ?_
    refine lp (ok X) (za1 a0) (fun (x3:Int)=>⟨56,0,[(1,[xP 0 0]),(33,[xL (List.map z0b a0.Procs)]),(34,[xI (a0.Procs.length:Int)]),(35,[xI x3])],[oB 57 (bs (z7h a0))]⟩) (fun (j3:Unit)=>⟨56,0,[],[]⟩) zks 0 (fun _=>⟨_,_,_,_,rfl⟩) h (by kernel_rfl) (fun x3 o h=>?_) (fun r' h=>?_) (fun j3 h=>?_)
    ·unfold za1 at h
     rcases iteE h with ⟨k8,h⟩|⟨k8,h⟩
     ·obtain ⟨v4,k9,h⟩:=z07 h
      refine adv (ok X) 10 [.b true,.e (z0b v4)] (pA k8 (pA (ixm z0b k9) pT)) (by kernel_rfl) ?_
      refine jn (ok X) 1 (fun (j4:Bool)=>⟨56,0,[(1,[xP 0 0]),(33,[xL (List.map z0b a0.Procs)]),(34,[xI (a0.Procs.length:Int)]),(35,[xI x3]),(54,[xB j4])],[oB 57 (bs (z7h a0))]⟩) h (fun j4 h=>?_) (fun j4 h=>?_)
      ·obtain ⟨v5,k10,h⟩:=z07 h
       rcases iteE h with ⟨k11,h⟩|⟨k11,h⟩
       ·obtain rfl:=retE h
        exact fin (ok X) 1 (.c (z16 v5)::bT 10 []) (pA (z1d (X:=X) k10) (pR 10 k11 pT)) (by kernel_rfl)
       ·obtain ⟨v6,k12,h⟩:=z07 h
        obtain rfl:=retE h
        exact fin (ok X) 1 (.c (z16 v5)::bF 8 [.c (z2w v6),.b false,.b false]) (pA (z1d (X:=X) k10) (pR 8 k11 (pA (zix (X:=X) k12) (pA k11 (pA k11 pT))))) (by kernel_rfl)
      ·rcases iteE h with ⟨k13,h⟩|⟨k13,h⟩
       ·obtain rfl:=retE h
        exact fin (ok X) 4 [.b true] (pA k13 pT) (by kernel_rfl)
       ·obtain rfl:=retE h
        exact fin (ok X) 4 [.b false] (pA k13 pT) (by kernel_rfl)
     ·obtain rfl:=retE h
      exact fin (ok X) 5 [.b false] (pA k8 pT) (by kernel_rfl)
    ·obtain rfl:=retE h
     kernel_rfl
    ·obtain rfl:=retE h
     exact fin (ok X) 3 [] pT (by kernel_rfl)
theorem zfp {r:Bool} (h:zgj=some r):Cv Tryz.prog (GX X) 9 [] (zca r):=by
 refine Cs.toV (?_:Cs Tryz.prog (GX X) 9 [] [] (zca r) (zrj r)) (by kernel_rfl)
 refine fnT (cx:=cx X) Tryz.f9 Tryz.call9 Tryz.func9 (by kernel_rfl) ?_
 unfold zgj at h
 obtain ⟨v1,k1,h⟩:=z07 h
 obtain ⟨v2,k2,h⟩:=z07 h
 refine adv (ok X) 7 [.c (ze7 v1),.c (zcp v2)] (pA (zpy (X:=X) k1) (pA (zl7 (X:=X) k2) pT)) (by kernel_rfl) ?_
 refine jn (ok X) 1 (fun (j1:Bool)=>⟨59,0,[(0,[xB j1])],[]⟩) h (fun j1 h=>?_) (fun j1 h=>?_)
 ·rcases iteE h with ⟨k3,h⟩|⟨k3,h⟩
  ·rcases iteE h with ⟨k4,h⟩|⟨k4,h⟩
   ·rcases iteE h with ⟨k5,h⟩|⟨k5,h⟩
    ·obtain ⟨v3,k6,h⟩:=z07 h
     rcases iteE h with ⟨k7,h⟩|⟨k7,h⟩
     ·obtain ⟨v4,k8,h⟩:=z07 h
      rcases iteE h with ⟨k9,h⟩|⟨k9,h⟩
      ·rcases iteE h with ⟨k10,h⟩|⟨k10,h⟩
       ·obtain ⟨v5,k11,h⟩:=z07 h
        rcases iteE h with ⟨k12,h⟩|⟨k12,h⟩
        ·obtain ⟨v6,k13,h⟩:=z07 h
         obtain rfl:=retE h
         exact fin (ok X) 1 (bT 6 (.i (v2.1.Chans.length:Int)::bT 5 (.e (z0m v3)::bT 7 (.e (z0m v4)::bT 7 (.i (v2.1.Procs.length:Int)::bT 4 (.c (zb2 v5)::bT 3 [.c (zb2 v6),.b true,.b true])))))) (pR 3 k3 (pR 3 k4 (pA (lm z0m v2.1.Chans) (pA k4 (pA k4 (pR 3 k5 (pA (ixm z0m k6) (pR 4 k5 (pR 3 k7 (pA (ixm z0m k8) (pR 4 k7 (pR 3 k9 (pA (lm z0b v2.1.Procs) (pA k9 (pA k9 (pA k10 (pA k10 (pA (zh1 (X:=X) k11) (pA k10 (pA k12 (pA k12 (pA (zh1 (X:=X) k13) (pA k12 (pA k12 pT)))))))))))))))))))))))) (by kernel_rfl)
        ·obtain rfl:=retE h
         exact fin (ok X) 1 (bT 6 (.i (v2.1.Chans.length:Int)::bT 5 (.e (z0m v3)::bT 7 (.e (z0m v4)::bT 7 (.i (v2.1.Procs.length:Int)::bT 4 (.c (zb2 v5)::.b true::bF 4 [])))))) (pR 3 k3 (pR 3 k4 (pA (lm z0m v2.1.Chans) (pA k4 (pA k4 (pR 3 k5 (pA (ixm z0m k6) (pR 4 k5 (pR 3 k7 (pA (ixm z0m k8) (pR 4 k7 (pR 3 k9 (pA (lm z0b v2.1.Procs) (pA k9 (pA k9 (pA k10 (pA k10 (pA (zh1 (X:=X) k11) (pA k10 (pR 4 k12 pT)))))))))))))))))))) (by kernel_rfl)
       ·obtain rfl:=retE h
        exact fin (ok X) 1 (bT 6 (.i (v2.1.Chans.length:Int)::bT 5 (.e (z0m v3)::bT 7 (.e (z0m v4)::bT 7 (.i (v2.1.Procs.length:Int)::.b true::.b true::bF 7 []))))) (pR 3 k3 (pR 3 k4 (pA (lm z0m v2.1.Chans) (pA k4 (pA k4 (pR 3 k5 (pA (ixm z0m k6) (pR 4 k5 (pR 3 k7 (pA (ixm z0m k8) (pR 4 k7 (pR 3 k9 (pA (lm z0b v2.1.Procs) (pA k9 (pA k9 (pR 3 k10 (pR 4 ff pT))))))))))))))))) (by kernel_rfl)
      ·obtain rfl:=retE h
       exact fin (ok X) 1 (bT 6 (.i (v2.1.Chans.length:Int)::bT 5 (.e (z0m v3)::bT 7 (.e (z0m v4)::bT 4 (bF 12 []))))) (pR 3 k3 (pR 3 k4 (pA (lm z0m v2.1.Chans) (pA k4 (pA k4 (pR 3 k5 (pA (ixm z0m k6) (pR 4 k5 (pR 3 k7 (pA (ixm z0m k8) (pR 4 k7 (pR 5 k9 (pR 7 ff pT))))))))))))) (by kernel_rfl)
     ·obtain rfl:=retE h
      exact fin (ok X) 1 (bT 6 (.i (v2.1.Chans.length:Int)::bT 5 (.e (z0m v3)::bT 4 (bF 19 [])))) (pR 3 k3 (pR 3 k4 (pA (lm z0m v2.1.Chans) (pA k4 (pA k4 (pR 3 k5 (pA (ixm z0m k6) (pR 4 k5 (pR 7 k7 (pR 12 ff pT)))))))))) (by kernel_rfl)
    ·obtain rfl:=retE h
     exact fin (ok X) 1 (bT 6 (.i (v2.1.Chans.length:Int)::.b true::.b true::bF 26 [])) (pR 3 k3 (pR 3 k4 (pA (lm z0m v2.1.Chans) (pA k4 (pA k4 (pR 7 k5 (pR 19 ff pT))))))) (by kernel_rfl)
   ·obtain rfl:=retE h
    exact fin (ok X) 1 (bT 3 (bF 31 [])) (pR 3 k3 (pR 5 k4 (pR 26 ff pT))) (by kernel_rfl)
  ·obtain rfl:=retE h
   exact fin (ok X) 1 (bF 34 []) (pR 3 k3 (pR 31 ff pT)) (by kernel_rfl)
 ·obtain rfl:=retE h
  exact fin (ok X) 1 [] pT (by kernel_rfl)
theorem zmv {a0:(List z3y)} {r:Bool} (h:zde a0=some r):Cv Tryz.prog (GX X) 5 [xL (List.map z45 a0)] (zdy r):=by
 refine Cs.toV (?_:Cs Tryz.prog (GX X) 5 [xL (List.map z45 a0)] [] (zdy r) (zh6 r)) (by kernel_rfl)
 refine fnT (cx:=cx X) Tryz.f5 Tryz.call5 Tryz.func5 (by kernel_rfl) ?_
 unfold zde at h
 refine adv (ok X) 13 [] pT (by kernel_rfl) ?_
 refine lp (ok X) (z6h a0) (fun (x1:(Int × Int × (Nat→(Nat→Int)) × (List z3y)))=>⟨154,0,[(0,[xL (List.map z45 a0)]),(3,[xP 0 0]),(4,[xP 1 0]),(5,[xI x1.1]),(6,[xR 2]),(7,[xI x1.2.1])],[oB 26 [.pv (.sl (List.map zc1 [(zbi.mk (ByteArray.mk #[99]) 0 1 (ByteArray.mk #[112]) (ByteArray.mk #[113]) [(ByteArray.mk #[97]),(ByteArray.mk #[98])])])),.emp,.pv (.sl (List.map zc2 [(z8p.mk (ByteArray.mk #[112]) [] []),(z8p.mk (ByteArray.mk #[113]) [] [])]))],oB 82 (bs (znn x1.2.2.1)),oR true 84 3 (List.map z45 x1.2.2.2)]⟩) (fun (j1:(Int × (Nat→(Nat→Int)) × (List z3y)))=>⟨154,0,[(3,[xP 0 0]),(4,[xP 1 0]),(5,[xI j1.1]),(6,[xR 2])],[oB 26 [.pv (.sl (List.map zc1 [(zbi.mk (ByteArray.mk #[99]) 0 1 (ByteArray.mk #[112]) (ByteArray.mk #[113]) [(ByteArray.mk #[97]),(ByteArray.mk #[98])])])),.emp,.pv (.sl (List.map zc2 [(z8p.mk (ByteArray.mk #[112]) [] []),(z8p.mk (ByteArray.mk #[113]) [] [])]))],oB 82 (bs (znn j1.2.1)),oR true 84 3 (List.map z45 j1.2.2)]⟩) zh7 (0,0,(arr (arr 0 []) [(arr 0 [0,0]),(arr 0 [0,0]),(arr 0 [0,0]),(arr 0 [0,0]),(arr 0 [0,0]),(arr 0 [0,0]),(arr 0 [0,0]),(arr 0 [0,0])]),[]) (fun _=>⟨_,_,_,_,rfl⟩) h (by kernel_rfl) (fun x1 o h=>?_) (fun r' h=>?_) (fun j1 h=>?_)
 ·unfold z6h at h
  refine adv (ok X) 2 [] pT (by kernel_rfl) ?_
  refine jn (ok X) 1 (fun (j2:Bool)=>⟨154,0,[(0,[xL (List.map z45 a0)]),(3,[xP 0 0]),(4,[xP 1 0]),(5,[xI x1.1]),(6,[xR 2]),(7,[xI x1.2.1]),(28,[xB j2])],[oB 26 [.pv (.sl (List.map zc1 [(zbi.mk (ByteArray.mk #[99]) 0 1 (ByteArray.mk #[112]) (ByteArray.mk #[113]) [(ByteArray.mk #[97]),(ByteArray.mk #[98])])])),.emp,.pv (.sl (List.map zc2 [(z8p.mk (ByteArray.mk #[112]) [] []),(z8p.mk (ByteArray.mk #[113]) [] [])]))],oB 82 (bs (znn x1.2.2.1)),oR true 84 3 (List.map z45 x1.2.2.2)]⟩) h (fun j2 h=>?_) (fun j2 h=>?_)
  ·rcases iteE h with ⟨k1,h⟩|⟨k1,h⟩
   ·obtain rfl:=retE h
    exact fin (ok X) 1 (.i (a0.length:Int)::bT 3 []) (pA (lm z45 a0) (pR 3 k1 pT)) (by kernel_rfl)
   ·obtain rfl:=retE h
    exact fin (ok X) 1 (.i (a0.length:Int)::bF 3 []) (pA (lm z45 a0) (pR 3 k1 pT)) (by kernel_rfl)
  ·rcases iteE h with ⟨k2,h⟩|⟨k2,h⟩
   ·refine adv (ok X) 3 [.b true] (pA k2 pT) (by kernel_rfl) ?_
    refine jn (ok X) 1 (fun (j3:(Int × (Nat→(Nat→Int)) × (List z3y)))=>⟨154,0,[(0,[xL (List.map z45 a0)]),(3,[xP 0 0]),(4,[xP 1 0]),(5,[xI j3.1]),(6,[xR 2]),(7,[xI x1.2.1])],[oB 26 [.pv (.sl (List.map zc1 [(zbi.mk (ByteArray.mk #[99]) 0 1 (ByteArray.mk #[112]) (ByteArray.mk #[113]) [(ByteArray.mk #[97]),(ByteArray.mk #[98])])])),.emp,.pv (.sl (List.map zc2 [(z8p.mk (ByteArray.mk #[112]) [] []),(z8p.mk (ByteArray.mk #[113]) [] [])]))],oB 82 (bs (znn j3.2.1)),oR true 84 3 (List.map z45 j3.2.2)]⟩) h (fun j3 h=>?_) (fun j3 h=>?_)
    ·obtain ⟨v1,k3,h⟩:=z07 h
     obtain ⟨v2,k4,h⟩:=z07 h
     obtain ⟨v3,k5,h⟩:=z07 h
     obtain ⟨v4,k6,h⟩:=z07 h
     obtain ⟨v5,k7,h⟩:=z07 h
     obtain ⟨v6,k8,h⟩:=z07 h
     obtain ⟨v7,k9,h⟩:=z07 h
     refine adv (ok X) 8 [.e (z45 v1),.o [0,1,2,3,4,5,6,7,8,9,10,11,12,13,14,15,16,17,18,19,20,21,22],.e (z45 v2),.i v3,.e [.str v4],.e (z45 v2),.i v5,.n v6,.n v7,.ld [xI ((x1.2.2.1 v6) v7)]] (pA (ixm z45 k3) (pA (ixm z45 k4) (pA k5 (pA (ixm z09 k6) (pA (ixm z45 k4) (pA k7 (pA k8 (pA k9 (pA (zpw x1.2.2.1 (zhn k8) (zhn k9)) pT))))))))) (by kernel_rfl) ?_
     rcases iteE h with ⟨k10,h⟩|⟨k10,h⟩
     ·obtain rfl:=retE h
      exact fin (ok X) 2 [.b true] (pA k10 pT) (by kernel_rfl)
     ·obtain ⟨v8,k11,h⟩:=z07 h
      obtain ⟨v9,k12,h⟩:=z07 h
      obtain ⟨v10,k13,h⟩:=z07 h
      obtain ⟨v11,k14,h⟩:=z07 h
      obtain rfl:=retE h
      exact fin (ok X) 8 [.b false,.o [0,1,2,3,4,5,6,7,8],.n v8,.n v9,.sc (bs (znn v10)),.l (List.map z45 v11)] (pA k10 (pA k11 (pA k12 (pA (retE k13 ▸ z05a x1.2.2.1 (IntKind.i64.wrap ((IntKind.i64.wrap v5)+1)) (zhn k11) (zhn k12)) (pA (apm (L:=x1.2.2.2) (M:=[(z3y.mk (IntKind.i64.wrap v3) v4 (IntKind.i64.wrap v5))]) zoi k14) pT))))) (by kernel_rfl)
    ·obtain rfl:=retE h
     exact fin (ok X) 1 [] pT (by kernel_rfl)
   ·obtain rfl:=retE h
    exact fin (ok X) 2 [.b false] (pA k2 pT) (by kernel_rfl)
 ·cases h
 ·refine adv (ok X) 1 [] pT (by kernel_rfl) ?_
  obtain ⟨v12,k15,h⟩:=z07 h
  obtain ⟨v13,k16,h⟩:=z07 h
  refine adv (ok X) 5 [.z (.fz 2),.c (zfd v12),.c (zcp v13)] (pA (zrk (X:=X) k15) (pA (zl7 (X:=X) k16) pT)) (by kernel_rfl) ?_
  refine jn (ok X) 1 (fun (j4:Bool)=>⟨154,0,[(4,[xP 1 0]),(5,[xI j1.1]),(10,[xP 3 0]),(115,[xB j4])],[none,oB 82 (bs (znn j1.2.1)),none,oB 57 (bs (z7h v13.1))]⟩) h (fun j4 h=>?_) (fun j4 h=>?_)
  ·obtain ⟨v14,k17,h⟩:=z07 h
   rcases iteE h with ⟨k18,h⟩|⟨k18,h⟩
   ·obtain rfl:=retE h
    exact fin (ok X) 1 (.c (zca v14)::bT 18 []) (pA (zfp (X:=X) k17) (pR 3 k18 (pR 15 tt pT))) (by kernel_rfl)
   ·rcases iteE h with ⟨k19,h⟩|⟨k19,h⟩
    ·obtain rfl:=retE h
     exact fin (ok X) 1 (.c (zca v14)::bF 3 (bT 15 [])) (pA (zfp (X:=X) k17) (pR 3 k18 (pR 5 k19 (pR 10 tt pT)))) (by kernel_rfl)
    ·rcases iteE h with ⟨k20,h⟩|⟨k20,h⟩
     ·obtain rfl:=retE h
      exact fin (ok X) 1 (.c (zca v14)::bF 6 (.i (v13.1.Chans.length:Int)::.b false::.b false::bT 10 [])) (pA (zfp (X:=X) k17) (pR 3 k18 (pR 3 k19 (pA (lm z0m v13.1.Chans) (pA k19 (pA k19 (pR 10 k20 pT))))))) (by kernel_rfl)
     ·obtain ⟨v15,k21,h⟩:=z07 h
      obtain rfl:=retE h
      exact fin (ok X) 1 (.c (zca v14)::bF 6 (.i (v13.1.Chans.length:Int)::bF 5 (.e (z0m v15)::bF 3 (.i (v15.Rule.length:Int)::bF 4 [])))) (pA (zfp (X:=X) k17) (pR 3 k18 (pR 3 k19 (pA (lm z0m v13.1.Chans) (pA k19 (pA k19 (pR 3 k20 (pA (ixm z0m k21) (pR 3 k20 (pA (lm zcu v15.Rule) (pR 4 k20 pT))))))))))) (by kernel_rfl)
  ·rcases iteE h with ⟨k22,h⟩|⟨k22,h⟩
   ·obtain rfl:=retE h
    exact fin (ok X) 4 [.b true] (pA k22 pT) (by kernel_rfl)
   ·refine adv (ok X) 5 [.b false] (pA k22 pT) (by kernel_rfl) ?_
    refine lp (ok X) (z87 j1 v13) (fun (x5:Int)=>⟨154,0,[(4,[xP 1 0]),(5,[xI j1.1]),(10,[xP 3 0]),(12,[xI x5])],[none,oB 82 (bs (znn j1.2.1)),none,oB 57 (bs (z7h v13.1))]⟩) (fun (j5:Unit)=>⟨154,0,[],[]⟩) zh7 0 (fun _=>⟨_,_,_,_,rfl⟩) h (by kernel_rfl) (fun x5 o h=>?_) (fun r' h=>?_) (fun j5 h=>?_)
    ·unfold z87 at h
     rcases iteE h with ⟨k23,h⟩|⟨k23,h⟩
     ·obtain ⟨v16,k24,h⟩:=z07 h
      obtain ⟨v17,k25,h⟩:=z07 h
      refine adv (ok X) 10 [.b true,.e (z0m v16),.e [.sl (List.map z71 v17)]] (pA k23 (pA (ixm z0m k24) (pA (ixm zcu k25) pT))) (by kernel_rfl) ?_
      refine jn (ok X) 1 (fun (j6:Bool)=>⟨154,0,[(4,[xP 1 0]),(5,[xI j1.1]),(10,[xP 3 0]),(12,[xI x5]),(153,[xB j6])],[none,oB 82 (bs (znn j1.2.1)),none,oB 57 (bs (z7h v13.1))]⟩) h (fun j6 h=>?_) (fun j6 h=>?_)
      ·rcases iteE h with ⟨k26,h⟩|⟨k26,h⟩
       ·obtain rfl:=retE h
        exact fin (ok X) 1 (.o [0,1,2,3,4,5,6,7,8,9,10,11,12,13,14,15,16,17,18,19,20,21,22,23,24]::.i (v17.length:Int)::bT 20 []) (pA (lm z71 v17) (pR 10 k26 (pR 10 tt pT))) (by kernel_rfl)
       ·obtain ⟨v18,k27,h⟩:=z07 h
        obtain ⟨v19,k28,h⟩:=z07 h
        rcases iteE h with ⟨k29,h⟩|⟨k29,h⟩
        ·obtain rfl:=retE h
         exact fin (ok X) 1 (.o [0,1,2,3,4,5,6,7,8,9,10,11,12,13,14,15,16,17,18,19,20,21,22,23,24]::.i (v17.length:Int)::.b false::.b false::.e [.int .i64 v18]::bF 3 (.n v19::.b false::.n 0::.b false::.ld [xI ((j1.2.1 v19) 0)]::bF 3 (bT 10 []))) (pA (lm z71 v17) (pA k26 (pA k26 (pA (ixm z71 k27) (pR 3 k26 (pA k28 (pA k26 (pA (rfl:inA 2 (0:Int)=some 0) (pA k26 (pA (zpw j1.2.1 (zhn k28) (by decide:0<2)) (pR 3 k26 (pR 10 k29 pT)))))))))))) (by kernel_rfl)
        ·obtain ⟨v20,k30,h⟩:=z07 h
         obtain ⟨v21,k31,h⟩:=z07 h
         obtain rfl:=retE h
         exact fin (ok X) 1 (.o [0,1,2,3,4,5,6,7,8,9,10,11,12,13,14,15,16,17,18,19,20,21,22,23,24]::.i (v17.length:Int)::.b false::.b false::.e [.int .i64 v18]::bF 3 (.n v19::.b false::.n 0::.b false::.ld [xI ((j1.2.1 v19) 0)]::bF 5 (.e [.int .i64 v20]::bF 3 (.n v21::.b false::.n 1::.b false::.ld [xI ((j1.2.1 v21) 1)]::bF 3 [])))) (pA (lm z71 v17) (pA k26 (pA k26 (pA (ixm z71 k27) (pR 3 k26 (pA k28 (pA k26 (pA (rfl:inA 2 (0:Int)=some 0) (pA k26 (pA (zpw j1.2.1 (zhn k28) (by decide:0<2)) (pR 3 k26 (pA k29 (pA k29 (pA (ixm z71 k30) (pR 3 k29 (pA k31 (pA k29 (pA (rfl:inA 2 (1:Int)=some 1) (pA k29 (pA (zpw j1.2.1 (zhn k31) (by decide:1<2)) (pR 3 k29 pT))))))))))))))))))))) (by kernel_rfl)
      ·rcases iteE h with ⟨k32,h⟩|⟨k32,h⟩
       ·obtain rfl:=retE h
        exact fin (ok X) 4 [.b true] (pA k32 pT) (by kernel_rfl)
       ·obtain rfl:=retE h
        exact fin (ok X) 4 [.b false] (pA k32 pT) (by kernel_rfl)
     ·obtain rfl:=retE h
      exact fin (ok X) 5 [.b false] (pA k23 pT) (by kernel_rfl)
    ·obtain rfl:=retE h
     kernel_rfl
    ·obtain rfl:=retE h
     exact fin (ok X) 3 [] pT (by kernel_rfl)
end Go.Proofs.YtimbigpplbbjaaaGreatDoor.Abs

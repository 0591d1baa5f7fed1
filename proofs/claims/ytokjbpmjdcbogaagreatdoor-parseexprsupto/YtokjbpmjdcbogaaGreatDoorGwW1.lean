/- Gw: the functions are these. -/
import Derived.Test.YtokjbpmjdcbogaaGreatDoorGwW0
namespace Go.Proofs.YtokjbpmjdcbogaaGreatDoor.Abs
open Go Go.RowKit
set_option linter.unusedVariables false
set_option maxRecDepth 100000
set_option maxHeartbeats 4000000
variable {X:EV}
theorem zoj {a0:ByteArray} {r:Bool} (h:zd9 a0=some r):Cv Tryz.prog (GX X) 111 [xS a0] (zfb r):=by
 refine Cs.toV (?_:Cs Tryz.prog (GX X) 111 [xS a0] [] (zfb r) (zo7 r)) (by kernel_rfl)
 refine fnT (cx:=cx X) Tryz.f111 Tryz.call111 Tryz.func111 (by kernel_rfl) ?_
 unfold zd9 at h
 rcases iteE h with ⟨k1,h⟩|⟨k1,h⟩
 ·obtain rfl:=retE h
  exact fin (ok X) 15 [.b true,.b true] (pA k1 (pA k1 pT)) (by kernel_rfl)
 ·refine adv (ok X) 12 [.b false] (pA k1 pT) (by kernel_rfl) ?_
  rcases iteE h with ⟨k2,h⟩|⟨k2,h⟩
  ·obtain rfl:=retE h
   exact fin (ok X) 6 [.b true,.b true] (pA k2 (pA k2 pT)) (by kernel_rfl)
  ·refine adv (ok X) 3 [.b false] (pA k2 pT) (by kernel_rfl) ?_
   rcases iteE h with ⟨k3,h⟩|⟨k3,h⟩
   ·obtain rfl:=retE h
    exact fin (ok X) 6 [.b true,.b true] (pA k3 (pA k3 pT)) (by kernel_rfl)
   ·refine adv (ok X) 3 [.b false] (pA k3 pT) (by kernel_rfl) ?_
    rcases iteE h with ⟨k4,h⟩|⟨k4,h⟩
    ·obtain rfl:=retE h
     exact fin (ok X) 6 [.b true,.b true] (pA k4 (pA k4 pT)) (by kernel_rfl)
    ·refine adv (ok X) 3 [.b false] (pA k4 pT) (by kernel_rfl) ?_
     rcases iteE h with ⟨k5,h⟩|⟨k5,h⟩
     ·obtain rfl:=retE h
      exact fin (ok X) 6 [.b true,.b true] (pA k5 (pA k5 pT)) (by kernel_rfl)
     ·refine adv (ok X) 3 [.b false] (pA k5 pT) (by kernel_rfl) ?_
      rcases iteE h with ⟨k6,h⟩|⟨k6,h⟩
      ·obtain rfl:=retE h
       exact fin (ok X) 6 [.b true,.b true] (pA k6 (pA k6 pT)) (by kernel_rfl)
      ·refine adv (ok X) 3 [.b false] (pA k6 pT) (by kernel_rfl) ?_
       rcases iteE h with ⟨k7,h⟩|⟨k7,h⟩
       ·obtain rfl:=retE h
        exact fin (ok X) 6 [.b true,.b true] (pA k7 (pA k7 pT)) (by kernel_rfl)
       ·refine adv (ok X) 2 [.b false] (pA k7 pT) (by kernel_rfl) ?_
        rcases iteE h with ⟨k8,h⟩|⟨k8,h⟩
        ·obtain rfl:=retE h
         exact fin (ok X) 4 [.b true] (pA k8 pT) (by kernel_rfl)
        ·refine adv (ok X) 4 [.b false] (pA k8 pT) (by kernel_rfl) ?_
         rcases iteE h with ⟨k9,h⟩|⟨k9,h⟩
         ·obtain rfl:=retE h
          exact fin (ok X) 6 [.b true,.b true] (pA k9 (pA k9 pT)) (by kernel_rfl)
         ·refine adv (ok X) 3 [.b false] (pA k9 pT) (by kernel_rfl) ?_
          rcases iteE h with ⟨k10,h⟩|⟨k10,h⟩
          ·obtain rfl:=retE h
           exact fin (ok X) 6 [.b true,.b true] (pA k10 (pA k10 pT)) (by kernel_rfl)
          ·refine adv (ok X) 3 [.b false] (pA k10 pT) (by kernel_rfl) ?_
           rcases iteE h with ⟨k11,h⟩|⟨k11,h⟩
           ·obtain rfl:=retE h
            exact fin (ok X) 6 [.b true,.b true] (pA k11 (pA k11 pT)) (by kernel_rfl)
           ·refine adv (ok X) 3 [.b false] (pA k11 pT) (by kernel_rfl) ?_
            rcases iteE h with ⟨k12,h⟩|⟨k12,h⟩
            ·obtain rfl:=retE h
             exact fin (ok X) 6 [.b true,.b true] (pA k12 (pA k12 pT)) (by kernel_rfl)
            ·refine adv (ok X) 3 [.b false] (pA k12 pT) (by kernel_rfl) ?_
             rcases iteE h with ⟨k13,h⟩|⟨k13,h⟩
             ·obtain rfl:=retE h
              exact fin (ok X) 6 [.b true,.b true] (pA k13 (pA k13 pT)) (by kernel_rfl)
             ·refine adv (ok X) 3 [.b false] (pA k13 pT) (by kernel_rfl) ?_
              rcases iteE h with ⟨k14,h⟩|⟨k14,h⟩
              ·obtain rfl:=retE h
               exact fin (ok X) 6 [.b true,.b true] (pA k14 (pA k14 pT)) (by kernel_rfl)
              ·refine adv (ok X) 3 [.b false] (pA k14 pT) (by kernel_rfl) ?_
               rcases iteE h with ⟨k15,h⟩|⟨k15,h⟩
               ·obtain rfl:=retE h
                exact fin (ok X) 6 [.b true,.b true] (pA k15 (pA k15 pT)) (by kernel_rfl)
               ·refine adv (ok X) 2 [.b false] (pA k15 pT) (by kernel_rfl) ?_
                rcases iteE h with ⟨k16,h⟩|⟨k16,h⟩
                ·obtain rfl:=retE h
                 exact fin (ok X) 4 [.b true] (pA k16 pT) (by kernel_rfl)
                ·obtain rfl:=retE h
                 exact fin (ok X) 6 [.b false] (pA k16 pT) (by kernel_rfl)
theorem zu1 {a0:ByteArray} {r:(z0g × Int)} (h:zfl a0=some r):Cv Tryz.prog (GX X) 91 [xS a0] (zje r):=by
 refine Cs.toV (?_:Cs Tryz.prog (GX X) 91 [xS a0] [] (zje r) (ztq r)) (by kernel_rfl)
 refine fnT (cx:=cx X) Tryz.f91 Tryz.call91 Tryz.func91 (by kernel_rfl) ?_
 unfold zfl at h
 rcases iteE h with ⟨k1,h⟩|⟨k1,h⟩
 ·obtain rfl:=retE h
  exact fin (ok X) 10 [.b true] (pA k1 pT) (by kernel_rfl)
 ·obtain ⟨v1,k2,h⟩:=z07 h
  refine adv (ok X) 9 [.b false,.c (zfb v1)] (pA k1 (pA (zoj (X:=X) k2) pT)) (by kernel_rfl) ?_
  rcases iteE h with ⟨k3,h⟩|⟨k3,h⟩
  ·obtain rfl:=retE h
   exact fin (ok X) 4 [.b true] (pA k3 pT) (by kernel_rfl)
  ·obtain rfl:=retE h
   exact fin (ok X) 6 [.b false] (pA k3 pT) (by kernel_rfl)
theorem zy2 {a0:ByteArray} {r:Int} (h:zka a0=some r):Cv Tryz.prog (GX X) 95 [xS a0] (zl8 r):=by
 refine Cs.toV (?_:Cs Tryz.prog (GX X) 95 [xS a0] [] (zl8 r) (zxt r)) (by kernel_rfl)
 refine fnT (cx:=cx X) Tryz.f95 Tryz.call95 Tryz.func95 (by kernel_rfl) ?_
 unfold zka at h
 refine adv (ok X) 4 [] pT (by kernel_rfl) ?_
 refine jn (ok X) 1 (fun (j1:Bool)=>⟨21,0,[(0,[xS a0]),(16,[xB j1])],[]⟩) h (fun j1 h=>?_) (fun j1 h=>?_)
 ·rcases iteE h with ⟨k1,h⟩|⟨k1,h⟩
  ·obtain ⟨v1,k2,h⟩:=z07 h
   rcases iteE h with ⟨k3,h⟩|⟨k3,h⟩
   ·obtain ⟨v2,k4,h⟩:=z07 h
    obtain ⟨v3,k5,h⟩:=z07 h
    obtain rfl:=retE h
    exact fin (ok X) 1 (.b true::.b true::.i v1::bT 4 [.i v2,.b true,.c (ztr v3),.b true,.b true]) (pA k1 (pA k1 (pA k2 (pA k1 (pA k1 (pA k3 (pA k3 (pA k4 (pA k3 (pA (z005 (X:=X) k5) (pA k3 (pA k3 pT)))))))))))) (by kernel_rfl)
   ·obtain rfl:=retE h
    exact fin (ok X) 1 (.b true::.b true::.i v1::.b true::.b true::bF 5 []) (pA k1 (pA k1 (pA k2 (pA k1 (pA k1 (pR 5 k3 pT)))))) (by kernel_rfl)
  ·obtain rfl:=retE h
   exact fin (ok X) 1 (bF 9 []) (pR 4 k1 (pR 5 ff pT)) (by kernel_rfl)
 ·rcases iteE h with ⟨k6,h⟩|⟨k6,h⟩
  ·obtain rfl:=retE h
   exact fin (ok X) 4 [.b true] (pA k6 pT) (by kernel_rfl)
  ·obtain ⟨v4,k7,h⟩:=z07 h
   obtain ⟨v5,k8,h⟩:=z07 h
   refine adv (ok X) 5 [.b false,.i v4,.c (ztr v5)] (pA k6 (pA k7 (pA (z005 (X:=X) k8) pT))) (by kernel_rfl) ?_
   rcases iteE h with ⟨k9,h⟩|⟨k9,h⟩
   ·obtain rfl:=retE h
    exact fin (ok X) 4 [.b true] (pA k9 pT) (by kernel_rfl)
   ·obtain rfl:=retE h
    exact fin (ok X) 5 [.b false] (pA k9 pT) (by kernel_rfl)
theorem zy3 {a0:ByteArray} {r:(z0g × Int)} (h:zgg a0=some r):Cv Tryz.prog (GX X) 55 [xS a0] (zl9 r):=by
 refine Cs.toV (?_:Cs Tryz.prog (GX X) 55 [xS a0] [] (zl9 r) (zxu r)) (by kernel_rfl)
 refine fnT (cx:=cx X) Tryz.f55 Tryz.call55 Tryz.func55 (by kernel_rfl) ?_
 unfold zgg at h
 obtain ⟨v1,k1,h⟩:=z07 h
 obtain ⟨v2,k2,h⟩:=z07 h
 refine adv (ok X) 6 [.i v1,.c (zd8 v2)] (pA k1 (pA (zhm (X:=X) k2) pT)) (by kernel_rfl) ?_
 rcases iteE h with ⟨k3,h⟩|⟨k3,h⟩
 ·obtain ⟨v3,k4,h⟩:=z07 h
  obtain ⟨v4,k5,h⟩:=z07 h
  obtain ⟨v5,k6,h⟩:=z07 h
  obtain rfl:=retE h
  exact fin (ok X) 4 [.b true,.c (zhe v3),.x [xS v4],.c (zje v5)] (pA k3 (pA (zs7 (X:=X) k4) (pA k5 (pA (zu1 (X:=X) k6) pT)))) (by kernel_rfl)
 ·obtain ⟨v6,k7,h⟩:=z07 h
  obtain ⟨v7,k8,h⟩:=z07 h
  refine adv (ok X) 3 [.b false,.i v6,.c (zgf v7)] (pA k3 (pA k7 (pA (znk (X:=X) k8) pT))) (by kernel_rfl) ?_
  rcases iteE h with ⟨k9,h⟩|⟨k9,h⟩
  ·obtain ⟨v8,k10,h⟩:=z07 h
   obtain ⟨v9,k11,h⟩:=z07 h
   obtain ⟨v10,k12,h⟩:=z07 h
   obtain rfl:=retE h
   exact fin (ok X) 8 [.b true,.c (zhe v8),.x [xS v9],.c (zw1 v10)] (pA k9 (pA (zs7 (X:=X) k10) (pA k11 (pA (z033 (X:=X) k12) pT)))) (by kernel_rfl)
  ·obtain ⟨v11,k13,h⟩:=z07 h
   refine adv (ok X) 8 [.b false,.c (zl8 v11)] (pA k9 (pA (zy2 (X:=X) k13) pT)) (by kernel_rfl) ?_
   rcases iteE h with ⟨k14,h⟩|⟨k14,h⟩
   ·obtain rfl:=retE h
    exact fin (ok X) 4 [.b true] (pA k14 pT) (by kernel_rfl)
   ·obtain ⟨v12,k15,h⟩:=z07 h
    obtain rfl:=retE h
    exact fin (ok X) 5 [.b false,.x [xS v12]] (pA k14 (pA k15 pT)) (by kernel_rfl)
theorem z006 {a0:ByteArray} {r:((List z0g) × Int × Int)} (h:zjf a0=some r):Cv Tryz.prog (GX X) 19 [xS a0] (zkb r):=by
 refine Cs.toV (?_:Cs Tryz.prog (GX X) 19 [xS a0] [] (zkb r) (zs0 r)) (by kernel_rfl)
 refine fnT (cx:=cx X) Tryz.f19 Tryz.call19 Tryz.func19 (by kernel_rfl) ?_
 unfold zjf at h
 refine adv (ok X) 7 [] pT (by kernel_rfl) ?_
 refine lp (ok X) (zct a0) (fun (x1:(Int × (List z0g)))=>⟨53,0,[(0,[xS a0]),(5,[xR 0]),(6,[xI x1.1])],[oR true 140 4 (List.map z2b x1.2)]⟩) (fun (j1:(List z0g))=>⟨53,0,[(0,[xS a0]),(5,[xR 0])],[oR true 140 4 (List.map z2b j1)]⟩) z004 (0,[]) (fun _=>⟨_,_,_,_,rfl⟩) h (by kernel_rfl) (fun x1 o h=>?_) (fun r' h=>?_) (fun j1 h=>?_)
 ·unfold zct at h
  rcases iteE h with ⟨k1,h⟩|⟨k1,h⟩
  ·refine adv (ok X) 8 [.b true] (pA k1 pT) (by kernel_rfl) ?_
   refine jn (ok X) 1 (fun (j2:Bool)=>⟨53,0,[(0,[xS a0]),(5,[xR 0]),(6,[xI x1.1]),(22,[xB j2])],[oR true 140 4 (List.map z2b x1.2)]⟩) h (fun j2 h=>?_) (fun j2 h=>?_)
   ·obtain ⟨v1,k2,h⟩:=z07 h
    rcases iteE h with ⟨k3,h⟩|⟨k3,h⟩
    ·obtain rfl:=retE h
     exact fin (ok X) 1 (.i v1::bT 5 []) (pA k2 (pR 5 k3 pT)) (by kernel_rfl)
    ·obtain ⟨v2,k4,h⟩:=z07 h
     obtain rfl:=retE h
     exact fin (ok X) 1 (.i v1::bF 3 [.i v2,.b false,.b false]) (pA k2 (pR 3 k3 (pA k4 (pA k3 (pA k3 pT))))) (by kernel_rfl)
   ·rcases iteE h with ⟨k5,h⟩|⟨k5,h⟩
    ·obtain rfl:=retE h
     exact fin (ok X) 4 [.b true] (pA k5 pT) (by kernel_rfl)
    ·obtain ⟨v3,k6,h⟩:=z07 h
     obtain ⟨v4,k7,h⟩:=z07 h
     refine adv (ok X) 7 [.b false,.x [xS v3],.c (zl9 v4)] (pA k5 (pA k6 (pA (zy3 (X:=X) k7) pT))) (by kernel_rfl) ?_
     rcases iteE h with ⟨k8,h⟩|⟨k8,h⟩
     ·obtain rfl:=retE h
      exact fin (ok X) 4 [.b true] (pA k8 pT) (by kernel_rfl)
     ·obtain ⟨v5,k9,h⟩:=z07 h
      obtain rfl:=retE h
      exact fin (ok X) 8 [.b false,.l (List.map z2b v5)] (pA k8 (pA (apm (L:=x1.2) (M:=[(z0g.mk v4.1.Kind v4.1.Text v4.1.Num x1.1)]) zeq k9) pT)) (by kernel_rfl)
  ·obtain rfl:=retE h
   exact fin (ok X) 5 [.b false] (pA k1 pT) (by kernel_rfl)
 ·obtain rfl:=retE h
  kernel_rfl
 ·refine adv (ok X) 3 [.i (j1.length:Int)] (pA (lm z2b j1) pT) (by kernel_rfl) ?_
  rcases iteE h with ⟨k10,h⟩|⟨k10,h⟩
  ·obtain rfl:=retE h
   exact fin (ok X) 4 [.b true] (pA k10 pT) (by kernel_rfl)
  ·obtain rfl:=retE h
   exact fin (ok X) 5 [.b false] (pA k10 pT) (by kernel_rfl)
theorem z61 {a0:z00} {a1:ByteArray} {r:Bool} (h:z3e a0 a1=some r):Cs Tryz.prog (GX X) 56 [xP 0 0,xS a1] [oB 71 (bs (z02 a0))] (z58 r) (z59 a0 r):=by
 refine fnT (cx:=cx X) Tryz.f56 Tryz.call56 Tryz.func56 (by kernel_rfl) ?_
 unfold z3e at h
 rcases iteE h with ⟨k1,h⟩|⟨k1,h⟩
 ·rcases iteE h with ⟨k2,h⟩|⟨k2,h⟩
  ·obtain ⟨v1,k3,h⟩:=z07 h
   rcases iteE h with ⟨k4,h⟩|⟨k4,h⟩
   ·obtain ⟨v2,k5,h⟩:=z07 h
    obtain rfl:=retE h
    exact fin (ok X) 5 (bT 5 (.i (a0.f_l.length:Int)::bT 7 (.e (z2b v1)::bT 9 (.e (z2b v2)::bT 5 [])))) (pR 5 k1 (pA (lm z2b a0.f_l) (pA k1 (pA k1 (pR 5 k2 (pA (ixm z2b k3) (pR 4 k2 (pR 5 k4 (pA (ixm z2b k5) (pR 5 k4 pT)))))))))) (by kernel_rfl)
   ·obtain rfl:=retE h
    exact fin (ok X) 5 (bT 5 (.i (a0.f_l.length:Int)::bT 7 (.e (z2b v1)::bT 4 (bF 10 [])))) (pR 5 k1 (pA (lm z2b a0.f_l) (pA k1 (pA k1 (pR 5 k2 (pA (ixm z2b k3) (pR 4 k2 (pR 10 k4 pT)))))))) (by kernel_rfl)
  ·obtain rfl:=retE h
   exact fin (ok X) 5 (bT 5 (.i (a0.f_l.length:Int)::.b true::.b true::bF 19 [])) (pR 5 k1 (pA (lm z2b a0.f_l) (pA k1 (pA k1 (pR 9 k2 (pR 10 ff pT)))))) (by kernel_rfl)
 ·obtain rfl:=retE h
  exact fin (ok X) 5 (bF 26 []) (pR 7 k1 (pR 19 ff pT)) (by kernel_rfl)
theorem z33 {a0:z00} {a1:ByteArray} {r:(z00 × Bool)} (h:z0j a0 a1=some r):Cs Tryz.prog (GX X) 20 [xP 0 0,xS a1] [oB 71 (bs (z02 a0))] (z2q r) (z2r r):=by
 refine fnT (cx:=cx X) Tryz.f20 Tryz.call20 Tryz.func20 (by kernel_rfl) ?_
 unfold z0j at h
 obtain ⟨v1,k1,h⟩:=z07 h
 refine adv (ok X) 5 [.s (z58 v1) (z59 a0 v1)] (pA (z61 (X:=X) k1) pT) (by kernel_rfl) ?_
 rcases iteE h with ⟨k2,h⟩|⟨k2,h⟩
 ·obtain rfl:=retE h
  exact fin (ok X) 4 [.b true] (pA k2 pT) (by kernel_rfl)
 ·obtain ⟨v2,k3,h⟩:=z07 h
  obtain rfl:=retE h
  exact fin (ok X) 7 [.b false,.l (List.map z2b v2)] (pA k2 (pA (lsm0 z2b k3) (pA (lnm zeq a0.f_l) pT))) (by kernel_rfl)
theorem zcw {a0:z00} {a1:Int} {r:Bool} (h:z6f a0 a1=some r):Cs Tryz.prog (GX X) 115 [xP 0 0,xI a1] [oB 71 (bs (z02 a0))] (za6 r) (za7 a0 r):=by
 refine fnT (cx:=cx X) Tryz.f115 Tryz.call115 Tryz.func115 (by kernel_rfl) ?_
 unfold z6f at h
 rcases iteE h with ⟨k1,h⟩|⟨k1,h⟩
 ·rcases iteE h with ⟨k2,h⟩|⟨k2,h⟩
  ·obtain ⟨v1,k3,h⟩:=z07 h
   obtain rfl:=retE h
   exact fin (ok X) 5 (bT 5 (.i (a0.f_l.length:Int)::bT 7 (.e (z2b v1)::bT 5 []))) (pR 5 k1 (pA (lm z2b a0.f_l) (pA k1 (pA k1 (pR 5 k2 (pA (ixm z2b k3) (pR 5 k2 pT))))))) (by kernel_rfl)
  ·obtain rfl:=retE h
   exact fin (ok X) 5 (bT 5 (.i (a0.f_l.length:Int)::.b true::.b true::bF 10 [])) (pR 5 k1 (pA (lm z2b a0.f_l) (pA k1 (pA k1 (pR 10 k2 pT))))) (by kernel_rfl)
 ·obtain rfl:=retE h
  exact fin (ok X) 5 (bF 17 []) (pR 7 k1 (pR 10 ff pT)) (by kernel_rfl)
theorem z62 {a0:z00} {a1:Int} {r:z00} (h:z2f a0 a1=some r):Cs Tryz.prog (GX X) 24 [xP 0 0,xI a1] [oB 71 (bs (z02 a0))] (z5a r) (z5b r):=by
 refine fnT (cx:=cx X) Tryz.f24 Tryz.call24 Tryz.func24 (by kernel_rfl) ?_
 unfold z2f at h
 rcases iteE h with ⟨k1,h⟩|⟨k1,h⟩
 ·obtain rfl:=retE h
  exact fin (ok X) 5 [.b true] (pA k1 pT) (by kernel_rfl)
 ·refine adv (ok X) 9 [.b false,.i (a0.f_l.length:Int)] (pA k1 (pA (lm z2b a0.f_l) pT)) (by kernel_rfl) ?_
  rcases iteE h with ⟨k2,h⟩|⟨k2,h⟩
  ·obtain ⟨v1,k3,h⟩:=z07 h
   obtain rfl:=retE h
   exact fin (ok X) 2 [.b true,.e (z2b v1)] (pA k2 (pA (ixm z2b k3) pT)) (by kernel_rfl)
  ·obtain rfl:=retE h
   exact fin (ok X) 2 [.b false] (pA k2 pT) (by kernel_rfl)
theorem zes {a0:z00} {a1:Int} {r:(z00 × z0g)} (h:z65 a0 a1=some r):Cs Tryz.prog (GX X) 96 [xP 0 0,xI a1] [oB 71 (bs (z02 a0))] (zb1 r) (zb2 r):=by
 refine fnT (cx:=cx X) Tryz.f96 Tryz.call96 Tryz.func96 (by kernel_rfl) ?_
 unfold z65 at h
 obtain ⟨v1,k1,h⟩:=z07 h
 refine adv (ok X) 5 [.s (za6 v1) (za7 a0 v1)] (pA (zcw (X:=X) k1) pT) (by kernel_rfl) ?_
 rcases iteE h with ⟨k2,h⟩|⟨k2,h⟩
 ·obtain ⟨v2,k3,h⟩:=z07 h
  obtain rfl:=retE h
  exact fin (ok X) 6 [.b true,.s (z5a v2) (z5b v2)] (pA k2 (pA (z62 (X:=X) k3) pT)) (by kernel_rfl)
 ·obtain ⟨v3,k4,h⟩:=z07 h
  obtain ⟨v4,k5,h⟩:=z07 h
  obtain rfl:=retE h
  exact fin (ok X) 9 [.b false,.e (z2b v3),.l (List.map z2b v4)] (pA k2 (pA (ixm z2b k4) (pA (lsm0 z2b k5) (pA (lnm zeq a0.f_l) pT)))) (by kernel_rfl)
theorem z29 {a0:z00} {r:(z00 × ByteArray)} (h:z0h a0=some r):Cs Tryz.prog (GX X) 57 [xP 0 0] [oB 71 (bs (z02 a0))] (z1z r) (z22 r):=by
 refine fnT (cx:=cx X) Tryz.f57 Tryz.call57 Tryz.func57 (by kernel_rfl) ?_
 unfold z0h at h
 obtain ⟨v1,k1,h⟩:=z07 h
 obtain rfl:=retE h
 exact fin (ok X) 5 [.s (zb1 v1) (zb2 v1)] (pA (zes (X:=X) k1) pT) (by kernel_rfl)
theorem z83 {a0:(List ByteArray)} {a1010:z00} {r:(z00 × Int)} (h:z2d a0 a1010=some r):Cs Tryz.prog (GX X) 97 [xL (List.map z1g a0),.fn (.func 20) [.box 0 0] []] [oB 71 (bs (z02 a1010))] (z3u r) (z3v r):=by
 refine fnT (cx:=cx X) Tryz.f97 Tryz.call97 Tryz.func97 (by kernel_rfl) ?_
 unfold z2d at h
 refine adv (ok X) 5 [.i (a0.length:Int)] (pA (lm z1g a0) pT) (by kernel_rfl) ?_
 refine lp (ok X) (z0o a0) (fun (x1:(Int × (List z0g) × Int × Int × Int × Int × Int))=>⟨19,1,[(0,[xL (List.map z1g a0)]),(1,[.fn (.func 20) [.box 0 0] []]),(7,[xI (a0.length:Int)]),(8,[xI x1.1])],[oB 71 (bs (z02 (z00.mk x1.2.1 x1.2.2.1 x1.2.2.2.1 x1.2.2.2.2.1 x1.2.2.2.2.2.1 x1.2.2.2.2.2.2)))]⟩) (fun (j1:((List z0g) × Int × Int × Int × Int × Int))=>⟨19,1,[],[oB 71 (bs (z02 (z00.mk j1.1 j1.2.1 j1.2.2.1 j1.2.2.2.1 j1.2.2.2.2.1 j1.2.2.2.2.2)))]⟩) z7z (0,a1010.f_l,a1010.f_end,a1010.f_e,a1010.f_at,a1010.f_deep,a1010.f_in) (fun _=>⟨_,_,_,_,rfl⟩) h (by kernel_rfl) (fun x1 o h=>?_) (fun r' h=>?_) (fun j1 h=>?_)
 ·unfold z0o at h
  rcases iteE h with ⟨k1,h⟩|⟨k1,h⟩
  ·obtain ⟨v1,k2,h⟩:=z07 h
   obtain ⟨v2,k3,h⟩:=z07 h
   refine adv (ok X) 11 [.b true,.e [.str v1],.s (z2q v2) (z2r v2)] (pA k1 (pA (ixm z1g k2) (pA (z33 (X:=X) k3) pT))) (by kernel_rfl) ?_
   rcases iteE h with ⟨k4,h⟩|⟨k4,h⟩
   ·obtain rfl:=retE h
    exact fin (ok X) 4 [.b true] (pA k4 pT) (by kernel_rfl)
   ·obtain rfl:=retE h
    exact fin (ok X) 4 [.b false] (pA k4 pT) (by kernel_rfl)
  ·obtain rfl:=retE h
   exact fin (ok X) 5 [.b false] (pA k1 pT) (by kernel_rfl)
 ·obtain rfl:=retE h
  kernel_rfl
 ·obtain rfl:=retE h
  exact fin (ok X) 3 [] pT (by kernel_rfl)
theorem z8t {a0:z00} {a1:(List ByteArray)} {r:(z00 × Int)} (h:z1u a0 a1=some r):Cs Tryz.prog (GX X) 58 [xP 0 0,xL (List.map z1g a1)] [oB 71 (bs (z02 a0))] (z7g r) (z7h r):=by
 refine fnT (cx:=cx X) Tryz.f58 Tryz.call58 Tryz.func58 (by kernel_rfl) ?_
 unfold z1u at h
 obtain ⟨v1,k1,h⟩:=z07 h
 obtain rfl:=retE h
 exact fin (ok X) 5 [.s (z3u v1) (z3v v1)] (pA (z83 (X:=X) k1) pT) (by kernel_rfl)
theorem z8n {a0:z00} {r:(z00 × Int)} (h:z28 a0=some r):Cs Tryz.prog (GX X) 59 [xP 0 0] [oB 71 (bs (z02 a0))] (z6z r) (z71 r):=by
 refine fnT (cx:=cx X) Tryz.f59 Tryz.call59 Tryz.func59 (by kernel_rfl) ?_
 unfold z28 at h
 obtain ⟨v1,k1,h⟩:=z07 h
 obtain rfl:=retE h
 exact fin (ok X) 5 [.s (zb1 v1) (zb2 v1)] (pA (zes (X:=X) k1) pT) (by kernel_rfl)
theorem z0w {a0:z00} {a1:ByteArray} {r:z00} (h:z08 a0 a1=some r):Cs Tryz.prog (GX X) 60 [xP 0 0,xS a1] [oB 71 (bs (z02 a0))] (z0s r) (z0t r):=by
 refine fnT (cx:=cx X) Tryz.f60 Tryz.call60 Tryz.func60 (by kernel_rfl) ?_
 unfold z08 at h
 obtain ⟨v1,k1,h⟩:=z07 h
 refine adv (ok X) 2 [.s (z2q v1) (z2r v1)] (pA (z33 (X:=X) k1) pT) (by kernel_rfl) ?_
 rcases iteE h with ⟨k2,h⟩|⟨k2,h⟩
 ·obtain ⟨v2,k3,h⟩:=z07 h
  obtain rfl:=retE h
  exact fin (ok X) 2 [.b true,.s (z5a v2) (z5b v2)] (pA k2 (pA (z62 (X:=X) k3) pT)) (by kernel_rfl)
 ·obtain rfl:=retE h
  exact fin (ok X) 2 [.b false] (pA k2 pT) (by kernel_rfl)
theorem zgy {a0:z00} {r:(z00 × z39)} (h:z6h a0=some r):Cs Tryz.prog (GX X) 21 [xP 0 0] [oB 71 (bs (z02 a0))] (z9j r) (z9k r):=by
 refine fnT (cx:=cx X) Tryz.f21 Tryz.call21 Tryz.func21 (by kernel_rfl) ?_
 unfold z6h at h
 obtain ⟨v1,k1,h⟩:=z07 h
 obtain ⟨v2,k2,h⟩:=z07 h
 refine adv (ok X) 9 [.s (z1z v1) (z22 v1),.s (z7g v2) (z7h v2)] (pA (z29 (X:=X) k1) (pA (z8t (X:=X) k2) pT)) (by kernel_rfl) ?_
 rcases iteE h with ⟨k3,h⟩|⟨k3,h⟩
 ·obtain ⟨v3,k4,h⟩:=z07 h
  obtain rfl:=retE h
  exact fin (ok X) 6 [.b true,.s (z5a v3) (z5b v3)] (pA k3 (pA (z62 (X:=X) k4) pT)) (by kernel_rfl)
 ·obtain ⟨v4,k5,h⟩:=z07 h
  obtain ⟨v5,k6,h⟩:=z07 h
  obtain ⟨v6,k7,h⟩:=z07 h
  obtain ⟨v7,k8,h⟩:=z07 h
  obtain ⟨v8,k9,h⟩:=z07 h
  obtain ⟨v9,k10,h⟩:=z07 h
  obtain ⟨v10,k11,h⟩:=z07 h
  obtain ⟨v11,k12,h⟩:=z07 h
  refine adv (ok X) 17 [.b false,.s (z6z v4) (z71 v4),.s (z0s v5) (z0t v5),.s (z1z v6) (z22 v6),.s (z0s v7) (z0t v7),.s (z1z v8) (z22 v8),.s (z0s v9) (z0t v9),.o [0,1,2,3,4,5,6,7],.s (z1z v10) (z22 v10),.l (List.map z1g v11)] (pA k3 (pA (z8n (X:=X) k5) (pA (z0w (X:=X) k6) (pA (z29 (X:=X) k7) (pA (z0w (X:=X) k8) (pA (z29 (X:=X) k9) (pA (z0w (X:=X) k10) (pA (z29 (X:=X) k11) (pA (apm (L:=[]) (M:=[v10.2]) z1t k12) pT))))))))) (by kernel_rfl) ?_
  refine lp (ok X) (z2c) (fun (x1:((List z0g) × Int × Int × Int × Int × Int × (List ByteArray)))=>⟨53,1,[(0,[xP 0 0]),(2,[xP 1 0]),(3,[xP 2 0])],[oB 71 (bs (z02 (z00.mk x1.1 x1.2.1 x1.2.2.1 x1.2.2.2.1 x1.2.2.2.2.1 x1.2.2.2.2.2.1))),oB 73 [.pv (.str (ByteArray.mk #[])),.pv (.int .i64 0),.pv (.int .i64 0),.pv (.str (ByteArray.mk #[])),.pv (.str (ByteArray.mk #[])),.emp],oB 73 [.pv (.str v1.2),.pv (.int .i64 v2.2),.pv (.int .i64 v4.2),.pv (.str v6.2),.pv (.str v8.2),.row 3],oR true 9 1 (List.map z1g x1.2.2.2.2.2.2)]⟩) (fun (j1:((List z0g) × Int × Int × Int × Int × Int × (List ByteArray)))=>⟨53,1,[(0,[xP 0 0]),(2,[xP 1 0]),(3,[xP 2 0])],[oB 71 (bs (z02 (z00.mk j1.1 j1.2.1 j1.2.2.1 j1.2.2.2.1 j1.2.2.2.2.1 j1.2.2.2.2.2.1))),oB 73 [.pv (.str (ByteArray.mk #[])),.pv (.int .i64 0),.pv (.int .i64 0),.pv (.str (ByteArray.mk #[])),.pv (.str (ByteArray.mk #[])),.emp],oB 73 [.pv (.str v1.2),.pv (.int .i64 v2.2),.pv (.int .i64 v4.2),.pv (.str v6.2),.pv (.str v8.2),.row 3],oR true 9 1 (List.map z1g j1.2.2.2.2.2.2)]⟩) zgu (v10.1.f_l,v10.1.f_end,v10.1.f_e,v10.1.f_at,v10.1.f_deep,v10.1.f_in,v11) (fun _=>⟨_,_,_,_,rfl⟩) h (by kernel_rfl) (fun x1 o h=>?_) (fun r' h=>?_) (fun j1 h=>?_)
  ·unfold z2c at h
   obtain ⟨v12,k13,h⟩:=z07 h
   refine adv (ok X) 3 [.s (z2q v12) (z2r v12)] (pA (z33 (X:=X) k13) pT) (by kernel_rfl) ?_
   rcases iteE h with ⟨k14,h⟩|⟨k14,h⟩
   ·obtain ⟨v13,k15,h⟩:=z07 h
    obtain ⟨v14,k16,h⟩:=z07 h
    obtain rfl:=retE h
    exact fin (ok X) 5 [.b true,.o [0,1,2,3,4,5,6,7],.s (z1z v13) (z22 v13),.l (List.map z1g v14)] (pA k14 (pA (z29 (X:=X) k15) (pA (apm (L:=x1.2.2.2.2.2.2) (M:=[v13.2]) z1t k16) pT))) (by kernel_rfl)
   ·obtain rfl:=retE h
    exact fin (ok X) 2 [.b false] (pA k14 pT) (by kernel_rfl)
  ·cases h
  ·obtain ⟨v15,k17,h⟩:=z07 h
   obtain ⟨v16,k18,h⟩:=z07 h
   obtain rfl:=retE h
   exact fin (ok X) 7 [.s (z0s v15) (z0t v15),.s (z0s v16) (z0t v16)] (pA (z0w (X:=X) k17) (pA (z0w (X:=X) k18) pT)) (by kernel_rfl)
theorem zjl {a0:z00} {r:(z00 × z3g)} (h:z7t a0=some r):Cs Tryz.prog (GX X) 22 [xP 0 0] [oB 71 (bs (z02 a0))] (zb3 r) (zb4 r):=by
 refine fnT (cx:=cx X) Tryz.f22 Tryz.call22 Tryz.func22 (by kernel_rfl) ?_
 unfold z7t at h
 obtain ⟨v1,k1,h⟩:=z07 h
 obtain ⟨v2,k2,h⟩:=z07 h
 refine adv (ok X) 7 [.s (z1z v1) (z22 v1),.s (z0s v2) (z0t v2)] (pA (z29 (X:=X) k1) (pA (z0w (X:=X) k2) pT)) (by kernel_rfl) ?_
 refine lp (ok X) (z3m) (fun (x1:((List z0g) × Int × Int × Int × Int × Int × (List z4j)))=>⟨38,1,[(0,[xP 0 0]),(2,[xP 1 0]),(3,[xP 2 0])],[oB 71 (bs (z02 (z00.mk x1.1 x1.2.1 x1.2.2.1 x1.2.2.2.1 x1.2.2.2.2.1 x1.2.2.2.2.2.1))),oB 77 [.pv (.str (ByteArray.mk #[])),.emp],oB 77 [.pv (.str v1.2),.row 3],oR true 111 3 (List.map z4s x1.2.2.2.2.2.2)]⟩) (fun (j1:((List z0g) × Int × Int × Int × Int × Int × (List z4j)))=>⟨38,1,[(0,[xP 0 0]),(2,[xP 1 0]),(3,[xP 2 0])],[oB 71 (bs (z02 (z00.mk j1.1 j1.2.1 j1.2.2.1 j1.2.2.2.1 j1.2.2.2.2.1 j1.2.2.2.2.2.1))),oB 77 [.pv (.str (ByteArray.mk #[])),.emp],oB 77 [.pv (.str v1.2),.row 3],oR true 111 3 (List.map z4s j1.2.2.2.2.2.2)]⟩) zjg (v2.f_l,v2.f_end,v2.f_e,v2.f_at,v2.f_deep,v2.f_in,[]) (fun _=>⟨_,_,_,_,rfl⟩) h (by kernel_rfl) (fun x1 o h=>?_) (fun r' h=>?_) (fun j1 h=>?_)
 ·unfold z3m at h
  refine adv (ok X) 2 [] pT (by kernel_rfl) ?_
  refine jn (ok X) 1 (fun (j2:Bool)=>⟨38,1,[(0,[xP 0 0]),(2,[xP 1 0]),(3,[xP 2 0]),(19,[xB j2])],[oB 71 (bs (z02 (z00.mk x1.1 x1.2.1 x1.2.2.1 x1.2.2.2.1 x1.2.2.2.2.1 x1.2.2.2.2.2.1))),oB 77 [.pv (.str (ByteArray.mk #[])),.emp],oB 77 [.pv (.str v1.2),.row 3],oR true 111 3 (List.map z4s x1.2.2.2.2.2.2)]⟩) h (fun j2 h=>?_) (fun j2 h=>?_)
  ·rcases iteE h with ⟨k3,h⟩|⟨k3,h⟩
   ·obtain ⟨v3,k4,h⟩:=z07 h
    obtain rfl:=retE h
    exact fin (ok X) 1 [.b true,.b true,.s (z58 v3) (z59 (z00.mk x1.1 x1.2.1 x1.2.2.1 x1.2.2.2.1 x1.2.2.2.2.1 x1.2.2.2.2.2.1) v3),.b true,.b true] (pA k3 (pA k3 (pA (z61 (X:=X) k4) (pA k3 (pA k3 pT))))) (by kernel_rfl)
   ·obtain rfl:=retE h
    exact fin (ok X) 1 (bF 4 []) (pR 4 k3 pT) (by kernel_rfl)
  ·rcases iteE h with ⟨k5,h⟩|⟨k5,h⟩
   ·obtain ⟨v4,k6,h⟩:=z07 h
    obtain ⟨v5,k7,h⟩:=z07 h
    obtain ⟨v6,k8,h⟩:=z07 h
    obtain ⟨v7,k9,h⟩:=z07 h
    obtain ⟨v8,k10,h⟩:=z07 h
    obtain rfl:=retE h
    exact fin (ok X) 9 [.b true,.s (z6z v4) (z71 v4),.s (z1z v5) (z22 v5),.s (z6z v6) (z71 v6),.s (z0s v7) (z0t v7),.l (List.map z4s v8)] (pA k5 (pA (z8n (X:=X) k6) (pA (z29 (X:=X) k7) (pA (z8n (X:=X) k8) (pA (z0w (X:=X) k9) (pA (apm (L:=x1.2.2.2.2.2.2) (M:=[(z4j.mk v4.2 v5.2 v6.2)]) ziv k10) pT)))))) (by kernel_rfl)
   ·obtain rfl:=retE h
    exact fin (ok X) 2 [.b false] (pA k5 pT) (by kernel_rfl)
 ·cases h
 ·obtain ⟨v9,k11,h⟩:=z07 h
  obtain rfl:=retE h
  exact fin (ok X) 5 [.s (z0s v9) (z0t v9)] (pA (z0w (X:=X) k11) pT) (by kernel_rfl)
theorem zdt {a0:z00} {r:(z00 × Bool)} (h:z77 a0=some r):Cs Tryz.prog (GX X) 187 [xP 0 0] [oB 71 (bs (z02 a0))] (zaj r) (zak r):=by
 refine fnT (cx:=cx X) Tryz.f187 Tryz.call187 Tryz.func187 (by kernel_rfl) ?_
 unfold z77 at h
 rcases iteE h with ⟨k1,h⟩|⟨k1,h⟩
 ·obtain ⟨v1,k2,h⟩:=z07 h
  obtain rfl:=retE h
  exact fin (ok X) 11 [.b true,.s (z5a v1) (z5b v1)] (pA k1 (pA (z62 (X:=X) k2) pT)) (by kernel_rfl)
 ·obtain rfl:=retE h
  exact fin (ok X) 12 [.b false] (pA k1 pT) (by kernel_rfl)
theorem zjm {n:Nat} (ih_parse_reader_expr:∀ (a0:z00) (r:(z00 × z06)),z1i n a0=some r→Cs Tryz.prog (GX X) 141 [xP 0 0] [oB 71 (bs (z02 a0))] (z2s r) (z2t r)) (ih_parse_reader_chain_parse_reader_term:∀ (a0:z00) (a2:(List ByteArray)) (a3:Int) (r:(z00 × z06)),z0d n a0 a2 a3=some r→Cs Tryz.prog (GX X) 160 [xP 0 0,.fn (.func 161) [.box 0 0] [],xL (List.map z1g a2),xI a3] [oB 71 (bs (z02 a0))] (z17 r) (z18 r)) (ih_parse_reader_term:∀ (a0:z00) (r:(z00 × z06)),z1e n a0=some r→Cs Tryz.prog (GX X) 161 [xP 0 0] [oB 71 (bs (z02 a0))] (z3w r) (z3x r)) (ih_parse_reader_chain_parse_reader_factor:∀ (a0:z00) (a2:(List ByteArray)) (a3:Int) (r:(z00 × z06)),z0b n a0 a2 a3=some r→Cs Tryz.prog (GX X) 160 [xP 0 0,.fn (.func 174) [.box 0 0] [],xL (List.map z1g a2),xI a3] [oB 71 (bs (z02 a0))] (z10 r) (z11 r)) (ih_parse_reader_factor:∀ (a0:z00) (r:(z00 × z06)),z0m n a0=some r→Cs Tryz.prog (GX X) 174 [xP 0 0] [oB 71 (bs (z02 a0))] (z3a r) (z3b r)) (ih_parse_reader_negated:∀ (a0:z00) (r:(z00 × z06)),z1f n a0=some r→Cs Tryz.prog (GX X) 183 [xP 0 0] [oB 71 (bs (z02 a0))] (z3j r) (z3k r)) (ih_parse_reader_parens:∀ (a0:z00) (r:(z00 × z06)),z1j n a0=some r→Cs Tryz.prog (GX X) 184 [xP 0 0] [oB 71 (bs (z02 a0))] (z3q r) (z3r r)) (a0:z00) (r:(z00 × z06)) (h:z1i (n+1) a0=some r):Cs Tryz.prog (GX X) 141 [xP 0 0] [oB 71 (bs (z02 a0))] (z2s r) (z2t r):=by
 refine fnT (cx:=cx X) Tryz.f141 Tryz.call141 Tryz.func141 (by kernel_rfl) ?_
 rw [z1i] at h
 obtain ⟨v1,k1,h⟩:=z07 h
 obtain rfl:=retE h
 exact fin (ok X) 5 [.s (z17 v1) (z18 v1)] (pA (ih_parse_reader_chain_parse_reader_term _ _ _ _ k1) pT) (by kernel_rfl)
theorem zaf {n:Nat} (ih_parse_reader_expr:∀ (a0:z00) (r:(z00 × z06)),z1i n a0=some r→Cs Tryz.prog (GX X) 141 [xP 0 0] [oB 71 (bs (z02 a0))] (z2s r) (z2t r)) (ih_parse_reader_chain_parse_reader_term:∀ (a0:z00) (a2:(List ByteArray)) (a3:Int) (r:(z00 × z06)),z0d n a0 a2 a3=some r→Cs Tryz.prog (GX X) 160 [xP 0 0,.fn (.func 161) [.box 0 0] [],xL (List.map z1g a2),xI a3] [oB 71 (bs (z02 a0))] (z17 r) (z18 r)) (ih_parse_reader_term:∀ (a0:z00) (r:(z00 × z06)),z1e n a0=some r→Cs Tryz.prog (GX X) 161 [xP 0 0] [oB 71 (bs (z02 a0))] (z3w r) (z3x r)) (ih_parse_reader_chain_parse_reader_factor:∀ (a0:z00) (a2:(List ByteArray)) (a3:Int) (r:(z00 × z06)),z0b n a0 a2 a3=some r→Cs Tryz.prog (GX X) 160 [xP 0 0,.fn (.func 174) [.box 0 0] [],xL (List.map z1g a2),xI a3] [oB 71 (bs (z02 a0))] (z10 r) (z11 r)) (ih_parse_reader_factor:∀ (a0:z00) (r:(z00 × z06)),z0m n a0=some r→Cs Tryz.prog (GX X) 174 [xP 0 0] [oB 71 (bs (z02 a0))] (z3a r) (z3b r)) (ih_parse_reader_negated:∀ (a0:z00) (r:(z00 × z06)),z1f n a0=some r→Cs Tryz.prog (GX X) 183 [xP 0 0] [oB 71 (bs (z02 a0))] (z3j r) (z3k r)) (ih_parse_reader_parens:∀ (a0:z00) (r:(z00 × z06)),z1j n a0=some r→Cs Tryz.prog (GX X) 184 [xP 0 0] [oB 71 (bs (z02 a0))] (z3q r) (z3r r)) (a0:z00) (a2:(List ByteArray)) (a3:Int) (r:(z00 × z06)) (h:z0d (n+1) a0 a2 a3=some r):Cs Tryz.prog (GX X) 160 [xP 0 0,.fn (.func 161) [.box 0 0] [],xL (List.map z1g a2),xI a3] [oB 71 (bs (z02 a0))] (z17 r) (z18 r):=by
 refine fnT (cx:=cx X) Tryz.f160 Tryz.call160 Tryz.func160 (by kernel_rfl) ?_
 rw [z0d] at h
 obtain ⟨v1,k1,h⟩:=z07 h
 refine adv (ok X) 5 [.s (z3w v1) (z3x v1)] (pA (ih_parse_reader_term _ _ k1) pT) (by kernel_rfl) ?_
 refine lp (ok X) (z2x (z1i n) (z0d n) (z1e n) (z0b n) (z0m n) (z1f n) (z1j n) a2 a3) (fun (x1:((List z0g) × Int × Int × Int × Int × Int × Int × Int × ByteArray × (List z06)))=>⟨32,1,[(0,[xP 0 0]),(1,[.fn (.func 161) [.box 0 0] []]),(2,[xL (List.map z1g a2)]),(3,[xI a3]),(8,[xP 1 0]),(9,[xP 2 0])],[oB 71 (bs (z02 (z00.mk x1.1 x1.2.1 x1.2.2.1 x1.2.2.2.1 x1.2.2.2.2.1 x1.2.2.2.2.2.1))),oB 103 [.pv (.int .i64 0),.pv (.int .i64 0),.pv (.str (ByteArray.mk #[])),.emp],oB 103 (bs (z3d (z06.mk x1.2.2.2.2.2.2.1 x1.2.2.2.2.2.2.2.1 x1.2.2.2.2.2.2.2.2.1 x1.2.2.2.2.2.2.2.2.2)))]⟩) (fun (j1:((List z0g) × Int × Int × Int × Int × Int × Int × Int × ByteArray × (List z06)))=>⟨32,1,[(8,[xP 1 0]),(9,[xP 2 0])],[oB 71 (bs (z02 (z00.mk j1.1 j1.2.1 j1.2.2.1 j1.2.2.2.1 j1.2.2.2.2.1 j1.2.2.2.2.2.1))),oB 103 [.pv (.int .i64 0),.pv (.int .i64 0),.pv (.str (ByteArray.mk #[])),.emp],oB 103 (bs (z3d (z06.mk j1.2.2.2.2.2.2.1 j1.2.2.2.2.2.2.2.1 j1.2.2.2.2.2.2.2.2.1 j1.2.2.2.2.2.2.2.2.2)))]⟩) za8 (v1.1.f_l,v1.1.f_end,v1.1.f_e,v1.1.f_at,v1.1.f_deep,v1.1.f_in,v1.2.Kind,v1.2.Num,v1.2.Name,v1.2.Kids) (fun _=>⟨_,_,_,_,rfl⟩) h (by kernel_rfl) (fun x1 o h=>?_) (fun r' h=>?_) (fun j1 h=>?_)
 ·unfold z2x at h
  rcases iteE h with ⟨k2,h⟩|⟨k2,h⟩
  ·obtain ⟨v2,k3,h⟩:=z07 h
   refine adv (ok X) 11 [.b true,.s (z7g v2) (z7h v2)] (pA k2 (pA (z8t (X:=X) k3) pT)) (by kernel_rfl) ?_
   rcases iteE h with ⟨k4,h⟩|⟨k4,h⟩
   ·obtain rfl:=retE h
    exact fin (ok X) 2 [.b true] (pA k4 pT) (by kernel_rfl)
   ·obtain ⟨v3,k5,h⟩:=z07 h
    obtain rfl:=retE h
    exact fin (ok X) 4 [.b false,.o [0,1,2,3,4,5,6,7,8],.s (z3w v3) (z3x v3),.bl (List.map z15 [(z06.mk x1.2.2.2.2.2.2.1 x1.2.2.2.2.2.2.2.1 x1.2.2.2.2.2.2.2.2.1 x1.2.2.2.2.2.2.2.2.2),v3.2])] (pA k4 (pA (ih_parse_reader_term _ _ k5) (pA (blc (e:=z15) (x:=(z06.mk x1.2.2.2.2.2.2.1 x1.2.2.2.2.2.2.2.1 x1.2.2.2.2.2.2.2.2.1 x1.2.2.2.2.2.2.2.2.2)) (z5z _).symm (blc (e:=z15) (x:=v3.2) (z5z _).symm (bl0 z15))) pT))) (by kernel_rfl)
  ·obtain rfl:=retE h
   exact fin (ok X) 5 [.b false] (pA k2 pT) (by kernel_rfl)
 ·cases h
 ·obtain rfl:=retE h
  exact fin (ok X) 3 [] pT (by kernel_rfl)
theorem zjn {n:Nat} (ih_parse_reader_expr:∀ (a0:z00) (r:(z00 × z06)),z1i n a0=some r→Cs Tryz.prog (GX X) 141 [xP 0 0] [oB 71 (bs (z02 a0))] (z2s r) (z2t r)) (ih_parse_reader_chain_parse_reader_term:∀ (a0:z00) (a2:(List ByteArray)) (a3:Int) (r:(z00 × z06)),z0d n a0 a2 a3=some r→Cs Tryz.prog (GX X) 160 [xP 0 0,.fn (.func 161) [.box 0 0] [],xL (List.map z1g a2),xI a3] [oB 71 (bs (z02 a0))] (z17 r) (z18 r)) (ih_parse_reader_term:∀ (a0:z00) (r:(z00 × z06)),z1e n a0=some r→Cs Tryz.prog (GX X) 161 [xP 0 0] [oB 71 (bs (z02 a0))] (z3w r) (z3x r)) (ih_parse_reader_chain_parse_reader_factor:∀ (a0:z00) (a2:(List ByteArray)) (a3:Int) (r:(z00 × z06)),z0b n a0 a2 a3=some r→Cs Tryz.prog (GX X) 160 [xP 0 0,.fn (.func 174) [.box 0 0] [],xL (List.map z1g a2),xI a3] [oB 71 (bs (z02 a0))] (z10 r) (z11 r)) (ih_parse_reader_factor:∀ (a0:z00) (r:(z00 × z06)),z0m n a0=some r→Cs Tryz.prog (GX X) 174 [xP 0 0] [oB 71 (bs (z02 a0))] (z3a r) (z3b r)) (ih_parse_reader_negated:∀ (a0:z00) (r:(z00 × z06)),z1f n a0=some r→Cs Tryz.prog (GX X) 183 [xP 0 0] [oB 71 (bs (z02 a0))] (z3j r) (z3k r)) (ih_parse_reader_parens:∀ (a0:z00) (r:(z00 × z06)),z1j n a0=some r→Cs Tryz.prog (GX X) 184 [xP 0 0] [oB 71 (bs (z02 a0))] (z3q r) (z3r r)) (a0:z00) (r:(z00 × z06)) (h:z1e (n+1) a0=some r):Cs Tryz.prog (GX X) 161 [xP 0 0] [oB 71 (bs (z02 a0))] (z3w r) (z3x r):=by
 refine fnT (cx:=cx X) Tryz.f161 Tryz.call161 Tryz.func161 (by kernel_rfl) ?_
 rw [z1e] at h
 obtain ⟨v1,k1,h⟩:=z07 h
 obtain rfl:=retE h
 exact fin (ok X) 5 [.s (z10 v1) (z11 v1)] (pA (ih_parse_reader_chain_parse_reader_factor _ _ _ _ k1) pT) (by kernel_rfl)
theorem z9o {n:Nat} (ih_parse_reader_expr:∀ (a0:z00) (r:(z00 × z06)),z1i n a0=some r→Cs Tryz.prog (GX X) 141 [xP 0 0] [oB 71 (bs (z02 a0))] (z2s r) (z2t r)) (ih_parse_reader_chain_parse_reader_term:∀ (a0:z00) (a2:(List ByteArray)) (a3:Int) (r:(z00 × z06)),z0d n a0 a2 a3=some r→Cs Tryz.prog (GX X) 160 [xP 0 0,.fn (.func 161) [.box 0 0] [],xL (List.map z1g a2),xI a3] [oB 71 (bs (z02 a0))] (z17 r) (z18 r)) (ih_parse_reader_term:∀ (a0:z00) (r:(z00 × z06)),z1e n a0=some r→Cs Tryz.prog (GX X) 161 [xP 0 0] [oB 71 (bs (z02 a0))] (z3w r) (z3x r)) (ih_parse_reader_chain_parse_reader_factor:∀ (a0:z00) (a2:(List ByteArray)) (a3:Int) (r:(z00 × z06)),z0b n a0 a2 a3=some r→Cs Tryz.prog (GX X) 160 [xP 0 0,.fn (.func 174) [.box 0 0] [],xL (List.map z1g a2),xI a3] [oB 71 (bs (z02 a0))] (z10 r) (z11 r)) (ih_parse_reader_factor:∀ (a0:z00) (r:(z00 × z06)),z0m n a0=some r→Cs Tryz.prog (GX X) 174 [xP 0 0] [oB 71 (bs (z02 a0))] (z3a r) (z3b r)) (ih_parse_reader_negated:∀ (a0:z00) (r:(z00 × z06)),z1f n a0=some r→Cs Tryz.prog (GX X) 183 [xP 0 0] [oB 71 (bs (z02 a0))] (z3j r) (z3k r)) (ih_parse_reader_parens:∀ (a0:z00) (r:(z00 × z06)),z1j n a0=some r→Cs Tryz.prog (GX X) 184 [xP 0 0] [oB 71 (bs (z02 a0))] (z3q r) (z3r r)) (a0:z00) (a2:(List ByteArray)) (a3:Int) (r:(z00 × z06)) (h:z0b (n+1) a0 a2 a3=some r):Cs Tryz.prog (GX X) 160 [xP 0 0,.fn (.func 174) [.box 0 0] [],xL (List.map z1g a2),xI a3] [oB 71 (bs (z02 a0))] (z10 r) (z11 r):=by
 refine fnT (cx:=cx X) Tryz.f160 Tryz.call160 Tryz.func160 (by kernel_rfl) ?_
 rw [z0b] at h
 obtain ⟨v1,k1,h⟩:=z07 h
 refine adv (ok X) 5 [.s (z3a v1) (z3b v1)] (pA (ih_parse_reader_factor _ _ k1) pT) (by kernel_rfl) ?_
 refine lp (ok X) (z2g (z1i n) (z0d n) (z1e n) (z0b n) (z0m n) (z1f n) (z1j n) a2 a3) (fun (x1:((List z0g) × Int × Int × Int × Int × Int × Int × Int × ByteArray × (List z06)))=>⟨32,1,[(0,[xP 0 0]),(1,[.fn (.func 174) [.box 0 0] []]),(2,[xL (List.map z1g a2)]),(3,[xI a3]),(8,[xP 1 0]),(9,[xP 2 0])],[oB 71 (bs (z02 (z00.mk x1.1 x1.2.1 x1.2.2.1 x1.2.2.2.1 x1.2.2.2.2.1 x1.2.2.2.2.2.1))),oB 103 [.pv (.int .i64 0),.pv (.int .i64 0),.pv (.str (ByteArray.mk #[])),.emp],oB 103 (bs (z3d (z06.mk x1.2.2.2.2.2.2.1 x1.2.2.2.2.2.2.2.1 x1.2.2.2.2.2.2.2.2.1 x1.2.2.2.2.2.2.2.2.2)))]⟩) (fun (j1:((List z0g) × Int × Int × Int × Int × Int × Int × Int × ByteArray × (List z06)))=>⟨32,1,[(8,[xP 1 0]),(9,[xP 2 0])],[oB 71 (bs (z02 (z00.mk j1.1 j1.2.1 j1.2.2.1 j1.2.2.2.1 j1.2.2.2.2.1 j1.2.2.2.2.2.1))),oB 103 [.pv (.int .i64 0),.pv (.int .i64 0),.pv (.str (ByteArray.mk #[])),.emp],oB 103 (bs (z3d (z06.mk j1.2.2.2.2.2.2.1 j1.2.2.2.2.2.2.2.1 j1.2.2.2.2.2.2.2.2.1 j1.2.2.2.2.2.2.2.2.2)))]⟩) z9n (v1.1.f_l,v1.1.f_end,v1.1.f_e,v1.1.f_at,v1.1.f_deep,v1.1.f_in,v1.2.Kind,v1.2.Num,v1.2.Name,v1.2.Kids) (fun _=>⟨_,_,_,_,rfl⟩) h (by kernel_rfl) (fun x1 o h=>?_) (fun r' h=>?_) (fun j1 h=>?_)
 ·unfold z2g at h
  rcases iteE h with ⟨k2,h⟩|⟨k2,h⟩
  ·obtain ⟨v2,k3,h⟩:=z07 h
   refine adv (ok X) 11 [.b true,.s (z7g v2) (z7h v2)] (pA k2 (pA (z8t (X:=X) k3) pT)) (by kernel_rfl) ?_
   rcases iteE h with ⟨k4,h⟩|⟨k4,h⟩
   ·obtain rfl:=retE h
    exact fin (ok X) 2 [.b true] (pA k4 pT) (by kernel_rfl)
   ·obtain ⟨v3,k5,h⟩:=z07 h
    obtain rfl:=retE h
    exact fin (ok X) 4 [.b false,.o [0,1,2,3,4,5,6,7,8],.s (z3a v3) (z3b v3),.bl (List.map z15 [(z06.mk x1.2.2.2.2.2.2.1 x1.2.2.2.2.2.2.2.1 x1.2.2.2.2.2.2.2.2.1 x1.2.2.2.2.2.2.2.2.2),v3.2])] (pA k4 (pA (ih_parse_reader_factor _ _ k5) (pA (blc (e:=z15) (x:=(z06.mk x1.2.2.2.2.2.2.1 x1.2.2.2.2.2.2.2.1 x1.2.2.2.2.2.2.2.2.1 x1.2.2.2.2.2.2.2.2.2)) (z5z _).symm (blc (e:=z15) (x:=v3.2) (z5z _).symm (bl0 z15))) pT))) (by kernel_rfl)
  ·obtain rfl:=retE h
   exact fin (ok X) 5 [.b false] (pA k2 pT) (by kernel_rfl)
 ·cases h
 ·obtain rfl:=retE h
  exact fin (ok X) 3 [] pT (by kernel_rfl)
theorem zhn {n:Nat} (ih_parse_reader_expr:∀ (a0:z00) (r:(z00 × z06)),z1i n a0=some r→Cs Tryz.prog (GX X) 141 [xP 0 0] [oB 71 (bs (z02 a0))] (z2s r) (z2t r)) (ih_parse_reader_chain_parse_reader_term:∀ (a0:z00) (a2:(List ByteArray)) (a3:Int) (r:(z00 × z06)),z0d n a0 a2 a3=some r→Cs Tryz.prog (GX X) 160 [xP 0 0,.fn (.func 161) [.box 0 0] [],xL (List.map z1g a2),xI a3] [oB 71 (bs (z02 a0))] (z17 r) (z18 r)) (ih_parse_reader_term:∀ (a0:z00) (r:(z00 × z06)),z1e n a0=some r→Cs Tryz.prog (GX X) 161 [xP 0 0] [oB 71 (bs (z02 a0))] (z3w r) (z3x r)) (ih_parse_reader_chain_parse_reader_factor:∀ (a0:z00) (a2:(List ByteArray)) (a3:Int) (r:(z00 × z06)),z0b n a0 a2 a3=some r→Cs Tryz.prog (GX X) 160 [xP 0 0,.fn (.func 174) [.box 0 0] [],xL (List.map z1g a2),xI a3] [oB 71 (bs (z02 a0))] (z10 r) (z11 r)) (ih_parse_reader_factor:∀ (a0:z00) (r:(z00 × z06)),z0m n a0=some r→Cs Tryz.prog (GX X) 174 [xP 0 0] [oB 71 (bs (z02 a0))] (z3a r) (z3b r)) (ih_parse_reader_negated:∀ (a0:z00) (r:(z00 × z06)),z1f n a0=some r→Cs Tryz.prog (GX X) 183 [xP 0 0] [oB 71 (bs (z02 a0))] (z3j r) (z3k r)) (ih_parse_reader_parens:∀ (a0:z00) (r:(z00 × z06)),z1j n a0=some r→Cs Tryz.prog (GX X) 184 [xP 0 0] [oB 71 (bs (z02 a0))] (z3q r) (z3r r)) (a0:z00) (r:(z00 × z06)) (h:z0m (n+1) a0=some r):Cs Tryz.prog (GX X) 174 [xP 0 0] [oB 71 (bs (z02 a0))] (z3a r) (z3b r):=by
 refine fnT (cx:=cx X) Tryz.f174 Tryz.call174 Tryz.func174 (by kernel_rfl) ?_
 rw [z0m] at h
 obtain ⟨v1,k1,h⟩:=z07 h
 refine adv (ok X) 6 [.s (z58 v1) (z59 a0 v1)] (pA (z61 (X:=X) k1) pT) (by kernel_rfl) ?_
 rcases iteE h with ⟨k2,h⟩|⟨k2,h⟩
 ·obtain ⟨v2,k3,h⟩:=z07 h
  obtain rfl:=retE h
  exact fin (ok X) 4 [.b true,.s (z3j v2) (z3k v2)] (pA k2 (pA (ih_parse_reader_negated _ _ k3) pT)) (by kernel_rfl)
 ·obtain ⟨v3,k4,h⟩:=z07 h
  refine adv (ok X) 3 [.b false,.s (z58 v3) (z59 a0 v3)] (pA k2 (pA (z61 (X:=X) k4) pT)) (by kernel_rfl) ?_
  rcases iteE h with ⟨k5,h⟩|⟨k5,h⟩
  ·obtain ⟨v4,k6,h⟩:=z07 h
   obtain rfl:=retE h
   exact fin (ok X) 4 [.b true,.s (z3q v4) (z3r v4)] (pA k5 (pA (ih_parse_reader_parens _ _ k6) pT)) (by kernel_rfl)
  ·obtain ⟨v5,k7,h⟩:=z07 h
   refine adv (ok X) 3 [.b false,.s (za6 v5) (za7 a0 v5)] (pA k5 (pA (zcw (X:=X) k7) pT)) (by kernel_rfl) ?_
   rcases iteE h with ⟨k8,h⟩|⟨k8,h⟩
   ·obtain ⟨v6,k9,h⟩:=z07 h
    obtain rfl:=retE h
    exact fin (ok X) 4 [.b true,.s (z6z v6) (z71 v6)] (pA k8 (pA (z8n (X:=X) k9) pT)) (by kernel_rfl)
   ·obtain ⟨v7,k10,h⟩:=z07 h
    obtain rfl:=retE h
    exact fin (ok X) 6 [.b false,.s (z1z v7) (z22 v7)] (pA k8 (pA (z29 (X:=X) k10) pT)) (by kernel_rfl)
theorem zgz {n:Nat} (ih_parse_reader_expr:∀ (a0:z00) (r:(z00 × z06)),z1i n a0=some r→Cs Tryz.prog (GX X) 141 [xP 0 0] [oB 71 (bs (z02 a0))] (z2s r) (z2t r)) (ih_parse_reader_chain_parse_reader_term:∀ (a0:z00) (a2:(List ByteArray)) (a3:Int) (r:(z00 × z06)),z0d n a0 a2 a3=some r→Cs Tryz.prog (GX X) 160 [xP 0 0,.fn (.func 161) [.box 0 0] [],xL (List.map z1g a2),xI a3] [oB 71 (bs (z02 a0))] (z17 r) (z18 r)) (ih_parse_reader_term:∀ (a0:z00) (r:(z00 × z06)),z1e n a0=some r→Cs Tryz.prog (GX X) 161 [xP 0 0] [oB 71 (bs (z02 a0))] (z3w r) (z3x r)) (ih_parse_reader_chain_parse_reader_factor:∀ (a0:z00) (a2:(List ByteArray)) (a3:Int) (r:(z00 × z06)),z0b n a0 a2 a3=some r→Cs Tryz.prog (GX X) 160 [xP 0 0,.fn (.func 174) [.box 0 0] [],xL (List.map z1g a2),xI a3] [oB 71 (bs (z02 a0))] (z10 r) (z11 r)) (ih_parse_reader_factor:∀ (a0:z00) (r:(z00 × z06)),z0m n a0=some r→Cs Tryz.prog (GX X) 174 [xP 0 0] [oB 71 (bs (z02 a0))] (z3a r) (z3b r)) (ih_parse_reader_negated:∀ (a0:z00) (r:(z00 × z06)),z1f n a0=some r→Cs Tryz.prog (GX X) 183 [xP 0 0] [oB 71 (bs (z02 a0))] (z3j r) (z3k r)) (ih_parse_reader_parens:∀ (a0:z00) (r:(z00 × z06)),z1j n a0=some r→Cs Tryz.prog (GX X) 184 [xP 0 0] [oB 71 (bs (z02 a0))] (z3q r) (z3r r)) (a0:z00) (r:(z00 × z06)) (h:z1f (n+1) a0=some r):Cs Tryz.prog (GX X) 183 [xP 0 0] [oB 71 (bs (z02 a0))] (z3j r) (z3k r):=by
 refine fnT (cx:=cx X) Tryz.f183 Tryz.call183 Tryz.func183 (by kernel_rfl) ?_
 rw [z1f] at h
 obtain ⟨v1,k1,h⟩:=z07 h
 refine adv (ok X) 5 [.s (zaj v1) (zak v1)] (pA (zdt (X:=X) k1) pT) (by kernel_rfl) ?_
 rcases iteE h with ⟨k2,h⟩|⟨k2,h⟩
 ·obtain rfl:=retE h
  exact fin (ok X) 4 [.b true] (pA k2 pT) (by kernel_rfl)
 ·obtain ⟨v2,k3,h⟩:=z07 h
  obtain ⟨v3,k4,h⟩:=z07 h
  obtain rfl:=retE h
  exact fin (ok X) 11 [.b false,.s (z0s v2) (z0t v2),.s (z3a v3) (z3b v3),.bl (List.map z15 [v3.2])] (pA k2 (pA (z0w (X:=X) k3) (pA (ih_parse_reader_factor _ _ k4) (pA (blc (e:=z15) (x:=v3.2) (z5z _).symm (bl0 z15)) pT)))) (by kernel_rfl)
theorem zho {n:Nat} (ih_parse_reader_expr:∀ (a0:z00) (r:(z00 × z06)),z1i n a0=some r→Cs Tryz.prog (GX X) 141 [xP 0 0] [oB 71 (bs (z02 a0))] (z2s r) (z2t r)) (ih_parse_reader_chain_parse_reader_term:∀ (a0:z00) (a2:(List ByteArray)) (a3:Int) (r:(z00 × z06)),z0d n a0 a2 a3=some r→Cs Tryz.prog (GX X) 160 [xP 0 0,.fn (.func 161) [.box 0 0] [],xL (List.map z1g a2),xI a3] [oB 71 (bs (z02 a0))] (z17 r) (z18 r)) (ih_parse_reader_term:∀ (a0:z00) (r:(z00 × z06)),z1e n a0=some r→Cs Tryz.prog (GX X) 161 [xP 0 0] [oB 71 (bs (z02 a0))] (z3w r) (z3x r)) (ih_parse_reader_chain_parse_reader_factor:∀ (a0:z00) (a2:(List ByteArray)) (a3:Int) (r:(z00 × z06)),z0b n a0 a2 a3=some r→Cs Tryz.prog (GX X) 160 [xP 0 0,.fn (.func 174) [.box 0 0] [],xL (List.map z1g a2),xI a3] [oB 71 (bs (z02 a0))] (z10 r) (z11 r)) (ih_parse_reader_factor:∀ (a0:z00) (r:(z00 × z06)),z0m n a0=some r→Cs Tryz.prog (GX X) 174 [xP 0 0] [oB 71 (bs (z02 a0))] (z3a r) (z3b r)) (ih_parse_reader_negated:∀ (a0:z00) (r:(z00 × z06)),z1f n a0=some r→Cs Tryz.prog (GX X) 183 [xP 0 0] [oB 71 (bs (z02 a0))] (z3j r) (z3k r)) (ih_parse_reader_parens:∀ (a0:z00) (r:(z00 × z06)),z1j n a0=some r→Cs Tryz.prog (GX X) 184 [xP 0 0] [oB 71 (bs (z02 a0))] (z3q r) (z3r r)) (a0:z00) (r:(z00 × z06)) (h:z1j (n+1) a0=some r):Cs Tryz.prog (GX X) 184 [xP 0 0] [oB 71 (bs (z02 a0))] (z3q r) (z3r r):=by
 refine fnT (cx:=cx X) Tryz.f184 Tryz.call184 Tryz.func184 (by kernel_rfl) ?_
 rw [z1j] at h
 obtain ⟨v1,k1,h⟩:=z07 h
 refine adv (ok X) 5 [.s (zaj v1) (zak v1)] (pA (zdt (X:=X) k1) pT) (by kernel_rfl) ?_
 rcases iteE h with ⟨k2,h⟩|⟨k2,h⟩
 ·obtain rfl:=retE h
  exact fin (ok X) 4 [.b true] (pA k2 pT) (by kernel_rfl)
 ·obtain ⟨v2,k3,h⟩:=z07 h
  obtain ⟨v3,k4,h⟩:=z07 h
  obtain ⟨v4,k5,h⟩:=z07 h
  obtain rfl:=retE h
  exact fin (ok X) 13 [.b false,.s (z0s v2) (z0t v2),.s (z2s v3) (z2t v3),.s (z0s v4) (z0t v4)] (pA k2 (pA (z0w (X:=X) k3) (pA (ih_parse_reader_expr _ _ k4) (pA (z0w (X:=X) k5) pT)))) (by kernel_rfl)
theorem zdg:∀ n:Nat,(∀ (a0:z00) (r:(z00 × z06)),z1i n a0=some r→Cs Tryz.prog (GX X) 141 [xP 0 0] [oB 71 (bs (z02 a0))] (z2s r) (z2t r))∧(∀ (a0:z00) (a2:(List ByteArray)) (a3:Int) (r:(z00 × z06)),z0d n a0 a2 a3=some r→Cs Tryz.prog (GX X) 160 [xP 0 0,.fn (.func 161) [.box 0 0] [],xL (List.map z1g a2),xI a3] [oB 71 (bs (z02 a0))] (z17 r) (z18 r))∧(∀ (a0:z00) (r:(z00 × z06)),z1e n a0=some r→Cs Tryz.prog (GX X) 161 [xP 0 0] [oB 71 (bs (z02 a0))] (z3w r) (z3x r))∧(∀ (a0:z00) (a2:(List ByteArray)) (a3:Int) (r:(z00 × z06)),z0b n a0 a2 a3=some r→Cs Tryz.prog (GX X) 160 [xP 0 0,.fn (.func 174) [.box 0 0] [],xL (List.map z1g a2),xI a3] [oB 71 (bs (z02 a0))] (z10 r) (z11 r))∧(∀ (a0:z00) (r:(z00 × z06)),z0m n a0=some r→Cs Tryz.prog (GX X) 174 [xP 0 0] [oB 71 (bs (z02 a0))] (z3a r) (z3b r))∧(∀ (a0:z00) (r:(z00 × z06)),z1f n a0=some r→Cs Tryz.prog (GX X) 183 [xP 0 0] [oB 71 (bs (z02 a0))] (z3j r) (z3k r))∧(∀ (a0:z00) (r:(z00 × z06)),z1j n a0=some r→Cs Tryz.prog (GX X) 184 [xP 0 0] [oB 71 (bs (z02 a0))] (z3q r) (z3r r))
 | 0=>⟨(fun _ _ h=>by rw [z1i] at h;cases h),(fun _ _ _ _ h=>by rw [z0d] at h;cases h),(fun _ _ h=>by rw [z1e] at h;cases h),(fun _ _ _ _ h=>by rw [z0b] at h;cases h),(fun _ _ h=>by rw [z0m] at h;cases h),(fun _ _ h=>by rw [z1f] at h;cases h),(fun _ _ h=>by rw [z1j] at h;cases h)⟩
 | n+1=>by
  have ih:=zdg n
  exact ⟨zjm ih.1 ih.2.1 ih.2.2.1 ih.2.2.2.1 ih.2.2.2.2.1 ih.2.2.2.2.2.1 ih.2.2.2.2.2.2,zaf ih.1 ih.2.1 ih.2.2.1 ih.2.2.2.1 ih.2.2.2.2.1 ih.2.2.2.2.2.1 ih.2.2.2.2.2.2,zjn ih.1 ih.2.1 ih.2.2.1 ih.2.2.2.1 ih.2.2.2.2.1 ih.2.2.2.2.2.1 ih.2.2.2.2.2.2,z9o ih.1 ih.2.1 ih.2.2.1 ih.2.2.2.1 ih.2.2.2.2.1 ih.2.2.2.2.2.1 ih.2.2.2.2.2.2,zhn ih.1 ih.2.1 ih.2.2.1 ih.2.2.2.1 ih.2.2.2.2.1 ih.2.2.2.2.2.1 ih.2.2.2.2.2.2,zgz ih.1 ih.2.1 ih.2.2.1 ih.2.2.2.1 ih.2.2.2.2.1 ih.2.2.2.2.2.1 ih.2.2.2.2.2.2,zho ih.1 ih.2.1 ih.2.2.1 ih.2.2.2.1 ih.2.2.2.2.1 ih.2.2.2.2.2.1 ih.2.2.2.2.2.2⟩
theorem z99 {a0:z00} {r:(z00 × z06)} (h:z5j a0=some r):Cs Tryz.prog (GX X) 141 [xP 0 0] [oB 71 (bs (z02 a0))] (z2s r) (z2t r):=by
 obtain ⟨n,hn⟩:=unfE h
 exact (zdg n).1 _ _ hn
theorem zjo {a0:z00} {r:(z00 × z05)} (h:z7u a0=some r):Cs Tryz.prog (GX X) 118 [xP 0 0] [oB 71 (bs (z02 a0))] (zek r) (zel r):=by
 refine fnT (cx:=cx X) Tryz.f118 Tryz.call118 Tryz.func118 (by kernel_rfl) ?_
 unfold z7u at h
 obtain ⟨v1,k1,h⟩:=z07 h
 obtain ⟨v2,k2,h⟩:=z07 h
 obtain ⟨v3,k3,h⟩:=z07 h
 obtain ⟨v4,k4,h⟩:=z07 h
 obtain ⟨v5,k5,h⟩:=z07 h
 obtain ⟨v6,k6,h⟩:=z07 h
 obtain ⟨v7,k7,h⟩:=z07 h
 obtain rfl:=retE h
 exact fin (ok X) 19 [.s (z1z v1) (z22 v1),.s (z0s v2) (z0t v2),.s (z1z v3) (z22 v3),.s (z0s v4) (z0t v4),.s (z2s v5) (z2t v5),.s (z0s v6) (z0t v6),.s (z0s v7) (z0t v7)] (pA (z29 (X:=X) k1) (pA (z0w (X:=X) k2) (pA (z29 (X:=X) k3) (pA (z0w (X:=X) k4) (pA (z99 (X:=X) k5) (pA (z0w (X:=X) k6) (pA (z0w (X:=X) k7) pT))))))) (by kernel_rfl)
theorem zb8 {a0:z00} {r:(z00 × z3t)} (h:z5k a0=some r):Cs Tryz.prog (GX X) 139 [xP 0 0] [oB 71 (bs (z02 a0))] (z97 r) (z98 r):=by
 refine fnT (cx:=cx X) Tryz.f139 Tryz.call139 Tryz.func139 (by kernel_rfl) ?_
 unfold z5k at h
 obtain ⟨v1,k1,h⟩:=z07 h
 obtain ⟨v2,k2,h⟩:=z07 h
 obtain ⟨v3,k3,h⟩:=z07 h
 refine adv (ok X) 11 [.s (z0s v1) (z0t v1),.s (z2s v2) (z2t v2),.s (z7g v3) (z7h v3)] (pA (z0w (X:=X) k1) (pA (z99 (X:=X) k2) (pA (z8t (X:=X) k3) pT))) (by kernel_rfl) ?_
 rcases iteE h with ⟨k4,h⟩|⟨k4,h⟩
 ·obtain ⟨v4,k5,h⟩:=z07 h
  obtain rfl:=retE h
  exact fin (ok X) 6 [.b true,.s (z5a v4) (z5b v4)] (pA k4 (pA (z62 (X:=X) k5) pT)) (by kernel_rfl)
 ·obtain ⟨v5,k6,h⟩:=z07 h
  obtain ⟨v6,k7,h⟩:=z07 h
  obtain rfl:=retE h
  exact fin (ok X) 11 [.b false,.s (z2s v5) (z2t v5),.s (z0s v6) (z0t v6)] (pA k4 (pA (z99 (X:=X) k6) (pA (z0w (X:=X) k7) pT))) (by kernel_rfl)
theorem zhp {a0:z00} {r:(z00 × z05)} (h:z6p a0=some r):Cs Tryz.prog (GX X) 120 [xP 0 0] [oB 71 (bs (z02 a0))] (zda r) (zdb r):=by
 refine fnT (cx:=cx X) Tryz.f120 Tryz.call120 Tryz.func120 (by kernel_rfl) ?_
 unfold z6p at h
 obtain ⟨v1,k1,h⟩:=z07 h
 obtain ⟨v2,k2,h⟩:=z07 h
 obtain rfl:=retE h
 exact fin (ok X) 9 [.s (z97 v1) (z98 v1),.s (z0s v2) (z0t v2)] (pA (zb8 (X:=X) k1) (pA (z0w (X:=X) k2) pT)) (by kernel_rfl)
theorem zij {a0:z00} {r:(z00 × z05)} (h:z78 a0=some r):Cs Tryz.prog (GX X) 121 [xP 0 0] [oB 71 (bs (z02 a0))] (zdq r) (zdr r):=by
 refine fnT (cx:=cx X) Tryz.f121 Tryz.call121 Tryz.func121 (by kernel_rfl) ?_
 unfold z78 at h
 obtain ⟨v1,k1,h⟩:=z07 h
 obtain ⟨v2,k2,h⟩:=z07 h
 obtain rfl:=retE h
 exact fin (ok X) 9 [.s (z1z v1) (z22 v1),.s (z0s v2) (z0t v2)] (pA (z29 (X:=X) k1) (pA (z0w (X:=X) k2) pT)) (by kernel_rfl)
theorem zhq {a0:z00} {r:(z00 × z05)} (h:z6q a0=some r):Cs Tryz.prog (GX X) 122 [xP 0 0] [oB 71 (bs (z02 a0))] (zdc r) (zdd r):=by
 refine fnT (cx:=cx X) Tryz.f122 Tryz.call122 Tryz.func122 (by kernel_rfl) ?_
 unfold z6q at h
 obtain ⟨v1,k1,h⟩:=z07 h
 obtain ⟨v2,k2,h⟩:=z07 h
 obtain ⟨v3,k3,h⟩:=z07 h
 obtain ⟨v4,k4,h⟩:=z07 h
 obtain rfl:=retE h
 exact fin (ok X) 13 [.s (z1z v1) (z22 v1),.s (z0s v2) (z0t v2),.s (z2s v3) (z2t v3),.s (z0s v4) (z0t v4)] (pA (z29 (X:=X) k1) (pA (z0w (X:=X) k2) (pA (z99 (X:=X) k3) (pA (z0w (X:=X) k4) pT)))) (by kernel_rfl)
theorem zik {n:Nat} (ih_parse_reader_stmts:∀ (a0:z00) (r:(z00 × (List z05))),z1b n a0=some r→Cs Tryz.prog (GX X) 61 [xP 0 0] [oB 71 (bs (z02 a0))] (z34 r) (z35 r)) (ih_parse_reader_stmt:∀ (a0:z00) (r:(z00 × z05 × Bool)),z0u n a0=some r→Cs Tryz.prog (GX X) 98 [xP 0 0] [oB 71 (bs (z02 a0))] (z4e r) (z4f r)) (ih_parse_reader_conditional:∀ (a0:z00) (r:(z00 × z05)),z12 n a0=some r→Cs Tryz.prog (GX X) 116 [xP 0 0] [oB 71 (bs (z02 a0))] (z2u r) (z2v r)) (ih_parse_reader_loop:∀ (a0:z00) (r:(z00 × z05)),z24 n a0=some r→Cs Tryz.prog (GX X) 117 [xP 0 0] [oB 71 (bs (z02 a0))] (z4g r) (z4h r)) (ih_parse_reader_recv:∀ (a0:z00) (r:(z00 × z05)),z1v n a0=some r→Cs Tryz.prog (GX X) 119 [xP 0 0] [oB 71 (bs (z02 a0))] (z3y r) (z3z r)) (ih_parse_reader_block:∀ (a0:z00) (r:(z00 × (List z05))),z0n n a0=some r→Cs Tryz.prog (GX X) 140 [xP 0 0] [oB 71 (bs (z02 a0))] (z36 r) (z38 r)) (ih_parse_reader_arm:∀ (a0:z00) (r:(z00 × z0y)),z1h n a0=some r→Cs Tryz.prog (GX X) 142 [xP 0 0] [oB 71 (bs (z02 a0))] (z47 r) (z48 r)) (a0:z00) (r:(z00 × (List z05))) (h:z1b (n+1) a0=some r):Cs Tryz.prog (GX X) 61 [xP 0 0] [oB 71 (bs (z02 a0))] (z34 r) (z35 r):=by
 refine fnT (cx:=cx X) Tryz.f61 Tryz.call61 Tryz.func61 (by kernel_rfl) ?_
 rw [z1b] at h
 refine adv (ok X) 4 [] pT (by kernel_rfl) ?_
 refine lp (ok X) (z8i (z1b n) (z0u n) (z12 n) (z24 n) (z1v n) (z0n n) (z1h n)) (fun (x1:((List z0g) × Int × Int × Int × Int × Int × (List z05)))=>⟨18,1,[(0,[xP 0 0]),(3,[xR 1])],[oB 71 (bs (z02 (z00.mk x1.1 x1.2.1 x1.2.2.1 x1.2.2.2.1 x1.2.2.2.2.1 x1.2.2.2.2.2.1))),oR true 108 19 (List.map z16 x1.2.2.2.2.2.2)]⟩) (fun (j1:Unit)=>⟨18,1,[],[none]⟩) zii (a0.f_l,a0.f_end,a0.f_e,a0.f_at,a0.f_deep,a0.f_in,[]) (fun _=>⟨_,_,_,_,rfl⟩) h (by kernel_rfl) (fun x1 o h=>?_) (fun r' h=>?_) (fun j1 h=>?_)
 ·unfold z8i at h
  obtain ⟨v1,k1,h⟩:=z07 h
  refine adv (ok X) 6 [.s (z4e v1) (z4f v1)] (pA (ih_parse_reader_stmt _ _ k1) pT) (by kernel_rfl) ?_
  rcases iteE h with ⟨k2,h⟩|⟨k2,h⟩
  ·obtain rfl:=retE h
   exact fin (ok X) 4 [.b true] (pA k2 pT) (by kernel_rfl)
  ·obtain ⟨v2,k3,h⟩:=z07 h
   obtain rfl:=retE h
   exact fin (ok X) 4 [.b false,.bl (List.map z16 [v1.2.1]),.l (List.map z16 v2)] (pA k2 (pA (blc (e:=z16) (x:=v1.2.1) (z45 _).symm (bl0 z16)) (pA (apm (L:=x1.2.2.2.2.2.2) (M:=[v1.2.1]) zir k3) pT))) (by kernel_rfl)
 ·obtain rfl:=retE h
  kernel_rfl
 ·cases h
theorem zjp {n:Nat} (ih_parse_reader_stmts:∀ (a0:z00) (r:(z00 × (List z05))),z1b n a0=some r→Cs Tryz.prog (GX X) 61 [xP 0 0] [oB 71 (bs (z02 a0))] (z34 r) (z35 r)) (ih_parse_reader_stmt:∀ (a0:z00) (r:(z00 × z05 × Bool)),z0u n a0=some r→Cs Tryz.prog (GX X) 98 [xP 0 0] [oB 71 (bs (z02 a0))] (z4e r) (z4f r)) (ih_parse_reader_conditional:∀ (a0:z00) (r:(z00 × z05)),z12 n a0=some r→Cs Tryz.prog (GX X) 116 [xP 0 0] [oB 71 (bs (z02 a0))] (z2u r) (z2v r)) (ih_parse_reader_loop:∀ (a0:z00) (r:(z00 × z05)),z24 n a0=some r→Cs Tryz.prog (GX X) 117 [xP 0 0] [oB 71 (bs (z02 a0))] (z4g r) (z4h r)) (ih_parse_reader_recv:∀ (a0:z00) (r:(z00 × z05)),z1v n a0=some r→Cs Tryz.prog (GX X) 119 [xP 0 0] [oB 71 (bs (z02 a0))] (z3y r) (z3z r)) (ih_parse_reader_block:∀ (a0:z00) (r:(z00 × (List z05))),z0n n a0=some r→Cs Tryz.prog (GX X) 140 [xP 0 0] [oB 71 (bs (z02 a0))] (z36 r) (z38 r)) (ih_parse_reader_arm:∀ (a0:z00) (r:(z00 × z0y)),z1h n a0=some r→Cs Tryz.prog (GX X) 142 [xP 0 0] [oB 71 (bs (z02 a0))] (z47 r) (z48 r)) (a0:z00) (r:(z00 × z05 × Bool)) (h:z0u (n+1) a0=some r):Cs Tryz.prog (GX X) 98 [xP 0 0] [oB 71 (bs (z02 a0))] (z4e r) (z4f r):=by
 refine fnT (cx:=cx X) Tryz.f98 Tryz.call98 Tryz.func98 (by kernel_rfl) ?_
 rw [z0u] at h
 obtain ⟨v1,k1,h⟩:=z07 h
 refine adv (ok X) 6 [.s (z2q v1) (z2r v1)] (pA (z33 (X:=X) k1) pT) (by kernel_rfl) ?_
 rcases iteE h with ⟨k2,h⟩|⟨k2,h⟩
 ·obtain ⟨v2,k3,h⟩:=z07 h
  obtain rfl:=retE h
  exact fin (ok X) 4 [.b true,.s (z2u v2) (z2v v2)] (pA k2 (pA (ih_parse_reader_conditional _ _ k3) pT)) (by kernel_rfl)
 ·obtain ⟨v3,k4,h⟩:=z07 h
  refine adv (ok X) 3 [.b false,.s (z2q v3) (z2r v3)] (pA k2 (pA (z33 (X:=X) k4) pT)) (by kernel_rfl) ?_
  rcases iteE h with ⟨k5,h⟩|⟨k5,h⟩
  ·obtain ⟨v4,k6,h⟩:=z07 h
   obtain rfl:=retE h
   exact fin (ok X) 4 [.b true,.s (z4g v4) (z4h v4)] (pA k5 (pA (ih_parse_reader_loop _ _ k6) pT)) (by kernel_rfl)
  ·obtain ⟨v5,k7,h⟩:=z07 h
   refine adv (ok X) 3 [.b false,.s (z2q v5) (z2r v5)] (pA k5 (pA (z33 (X:=X) k7) pT)) (by kernel_rfl) ?_
   rcases iteE h with ⟨k8,h⟩|⟨k8,h⟩
   ·obtain ⟨v6,k9,h⟩:=z07 h
    obtain rfl:=retE h
    exact fin (ok X) 4 [.b true,.s (zek v6) (zel v6)] (pA k8 (pA (zjo (X:=X) k9) pT)) (by kernel_rfl)
   ·obtain ⟨v7,k10,h⟩:=z07 h
    refine adv (ok X) 3 [.b false,.s (z2q v7) (z2r v7)] (pA k8 (pA (z33 (X:=X) k10) pT)) (by kernel_rfl) ?_
    rcases iteE h with ⟨k11,h⟩|⟨k11,h⟩
    ·obtain ⟨v8,k12,h⟩:=z07 h
     obtain rfl:=retE h
     exact fin (ok X) 4 [.b true,.s (z3y v8) (z3z v8)] (pA k11 (pA (ih_parse_reader_recv _ _ k12) pT)) (by kernel_rfl)
    ·obtain ⟨v9,k13,h⟩:=z07 h
     refine adv (ok X) 3 [.b false,.s (z2q v9) (z2r v9)] (pA k11 (pA (z33 (X:=X) k13) pT)) (by kernel_rfl) ?_
     rcases iteE h with ⟨k14,h⟩|⟨k14,h⟩
     ·obtain ⟨v10,k15,h⟩:=z07 h
      obtain rfl:=retE h
      exact fin (ok X) 4 [.b true,.s (zda v10) (zdb v10)] (pA k14 (pA (zhp (X:=X) k15) pT)) (by kernel_rfl)
     ·obtain ⟨v11,k16,h⟩:=z07 h
      refine adv (ok X) 3 [.b false,.s (z2q v11) (z2r v11)] (pA k14 (pA (z33 (X:=X) k16) pT)) (by kernel_rfl) ?_
      rcases iteE h with ⟨k17,h⟩|⟨k17,h⟩
      ·obtain ⟨v12,k18,h⟩:=z07 h
       obtain rfl:=retE h
       exact fin (ok X) 4 [.b true,.s (zdq v12) (zdr v12)] (pA k17 (pA (zij (X:=X) k18) pT)) (by kernel_rfl)
      ·obtain ⟨v13,k19,h⟩:=z07 h
       refine adv (ok X) 3 [.b false,.s (za6 v13) (za7 v11.1 v13)] (pA k17 (pA (zcw (X:=X) k19) pT)) (by kernel_rfl) ?_
       rcases iteE h with ⟨k20,h⟩|⟨k20,h⟩
       ·obtain ⟨v14,k21,h⟩:=z07 h
        obtain rfl:=retE h
        exact fin (ok X) 4 [.b true,.s (zdc v14) (zdd v14)] (pA k20 (pA (zhq (X:=X) k21) pT)) (by kernel_rfl)
       ·obtain rfl:=retE h
        exact fin (ok X) 6 [.b false] (pA k20 pT) (by kernel_rfl)
theorem zf0 {n:Nat} (ih_parse_reader_stmts:∀ (a0:z00) (r:(z00 × (List z05))),z1b n a0=some r→Cs Tryz.prog (GX X) 61 [xP 0 0] [oB 71 (bs (z02 a0))] (z34 r) (z35 r)) (ih_parse_reader_stmt:∀ (a0:z00) (r:(z00 × z05 × Bool)),z0u n a0=some r→Cs Tryz.prog (GX X) 98 [xP 0 0] [oB 71 (bs (z02 a0))] (z4e r) (z4f r)) (ih_parse_reader_conditional:∀ (a0:z00) (r:(z00 × z05)),z12 n a0=some r→Cs Tryz.prog (GX X) 116 [xP 0 0] [oB 71 (bs (z02 a0))] (z2u r) (z2v r)) (ih_parse_reader_loop:∀ (a0:z00) (r:(z00 × z05)),z24 n a0=some r→Cs Tryz.prog (GX X) 117 [xP 0 0] [oB 71 (bs (z02 a0))] (z4g r) (z4h r)) (ih_parse_reader_recv:∀ (a0:z00) (r:(z00 × z05)),z1v n a0=some r→Cs Tryz.prog (GX X) 119 [xP 0 0] [oB 71 (bs (z02 a0))] (z3y r) (z3z r)) (ih_parse_reader_block:∀ (a0:z00) (r:(z00 × (List z05))),z0n n a0=some r→Cs Tryz.prog (GX X) 140 [xP 0 0] [oB 71 (bs (z02 a0))] (z36 r) (z38 r)) (ih_parse_reader_arm:∀ (a0:z00) (r:(z00 × z0y)),z1h n a0=some r→Cs Tryz.prog (GX X) 142 [xP 0 0] [oB 71 (bs (z02 a0))] (z47 r) (z48 r)) (a0:z00) (r:(z00 × z05)) (h:z12 (n+1) a0=some r):Cs Tryz.prog (GX X) 116 [xP 0 0] [oB 71 (bs (z02 a0))] (z2u r) (z2v r):=by
 refine fnT (cx:=cx X) Tryz.f116 Tryz.call116 Tryz.func116 (by kernel_rfl) ?_
 rw [z12] at h
 obtain ⟨v1,k1,h⟩:=z07 h
 obtain ⟨v2,k2,h⟩:=z07 h
 obtain ⟨v3,k3,h⟩:=z07 h
 refine adv (ok X) 9 [.s (z97 v1) (z98 v1),.s (z36 v2) (z38 v2),.s (z2q v3) (z2r v3)] (pA (zb8 (X:=X) k1) (pA (ih_parse_reader_block _ _ k2) (pA (z33 (X:=X) k3) pT))) (by kernel_rfl) ?_
 rcases iteE h with ⟨k4,h⟩|⟨k4,h⟩
 ·obtain ⟨v4,k5,h⟩:=z07 h
  obtain rfl:=retE h
  exact fin (ok X) 5 [.b true,.s (z36 v4) (z38 v4)] (pA k4 (pA (ih_parse_reader_block _ _ k5) pT)) (by kernel_rfl)
 ·obtain rfl:=retE h
  exact fin (ok X) 5 [.b false] (pA k4 pT) (by kernel_rfl)
theorem zjq {n:Nat} (ih_parse_reader_stmts:∀ (a0:z00) (r:(z00 × (List z05))),z1b n a0=some r→Cs Tryz.prog (GX X) 61 [xP 0 0] [oB 71 (bs (z02 a0))] (z34 r) (z35 r)) (ih_parse_reader_stmt:∀ (a0:z00) (r:(z00 × z05 × Bool)),z0u n a0=some r→Cs Tryz.prog (GX X) 98 [xP 0 0] [oB 71 (bs (z02 a0))] (z4e r) (z4f r)) (ih_parse_reader_conditional:∀ (a0:z00) (r:(z00 × z05)),z12 n a0=some r→Cs Tryz.prog (GX X) 116 [xP 0 0] [oB 71 (bs (z02 a0))] (z2u r) (z2v r)) (ih_parse_reader_loop:∀ (a0:z00) (r:(z00 × z05)),z24 n a0=some r→Cs Tryz.prog (GX X) 117 [xP 0 0] [oB 71 (bs (z02 a0))] (z4g r) (z4h r)) (ih_parse_reader_recv:∀ (a0:z00) (r:(z00 × z05)),z1v n a0=some r→Cs Tryz.prog (GX X) 119 [xP 0 0] [oB 71 (bs (z02 a0))] (z3y r) (z3z r)) (ih_parse_reader_block:∀ (a0:z00) (r:(z00 × (List z05))),z0n n a0=some r→Cs Tryz.prog (GX X) 140 [xP 0 0] [oB 71 (bs (z02 a0))] (z36 r) (z38 r)) (ih_parse_reader_arm:∀ (a0:z00) (r:(z00 × z0y)),z1h n a0=some r→Cs Tryz.prog (GX X) 142 [xP 0 0] [oB 71 (bs (z02 a0))] (z47 r) (z48 r)) (a0:z00) (r:(z00 × z05)) (h:z24 (n+1) a0=some r):Cs Tryz.prog (GX X) 117 [xP 0 0] [oB 71 (bs (z02 a0))] (z4g r) (z4h r):=by
 refine fnT (cx:=cx X) Tryz.f117 Tryz.call117 Tryz.func117 (by kernel_rfl) ?_
 rw [z24] at h
 obtain ⟨v1,k1,h⟩:=z07 h
 obtain ⟨v2,k2,h⟩:=z07 h
 obtain rfl:=retE h
 exact fin (ok X) 9 [.s (z97 v1) (z98 v1),.s (z36 v2) (z38 v2)] (pA (zb8 (X:=X) k1) (pA (ih_parse_reader_block _ _ k2) pT)) (by kernel_rfl)
theorem zjr {n:Nat} (ih_parse_reader_stmts:∀ (a0:z00) (r:(z00 × (List z05))),z1b n a0=some r→Cs Tryz.prog (GX X) 61 [xP 0 0] [oB 71 (bs (z02 a0))] (z34 r) (z35 r)) (ih_parse_reader_stmt:∀ (a0:z00) (r:(z00 × z05 × Bool)),z0u n a0=some r→Cs Tryz.prog (GX X) 98 [xP 0 0] [oB 71 (bs (z02 a0))] (z4e r) (z4f r)) (ih_parse_reader_conditional:∀ (a0:z00) (r:(z00 × z05)),z12 n a0=some r→Cs Tryz.prog (GX X) 116 [xP 0 0] [oB 71 (bs (z02 a0))] (z2u r) (z2v r)) (ih_parse_reader_loop:∀ (a0:z00) (r:(z00 × z05)),z24 n a0=some r→Cs Tryz.prog (GX X) 117 [xP 0 0] [oB 71 (bs (z02 a0))] (z4g r) (z4h r)) (ih_parse_reader_recv:∀ (a0:z00) (r:(z00 × z05)),z1v n a0=some r→Cs Tryz.prog (GX X) 119 [xP 0 0] [oB 71 (bs (z02 a0))] (z3y r) (z3z r)) (ih_parse_reader_block:∀ (a0:z00) (r:(z00 × (List z05))),z0n n a0=some r→Cs Tryz.prog (GX X) 140 [xP 0 0] [oB 71 (bs (z02 a0))] (z36 r) (z38 r)) (ih_parse_reader_arm:∀ (a0:z00) (r:(z00 × z0y)),z1h n a0=some r→Cs Tryz.prog (GX X) 142 [xP 0 0] [oB 71 (bs (z02 a0))] (z47 r) (z48 r)) (a0:z00) (r:(z00 × z05)) (h:z1v (n+1) a0=some r):Cs Tryz.prog (GX X) 119 [xP 0 0] [oB 71 (bs (z02 a0))] (z3y r) (z3z r):=by
 refine fnT (cx:=cx X) Tryz.f119 Tryz.call119 Tryz.func119 (by kernel_rfl) ?_
 rw [z1v] at h
 obtain ⟨v1,k1,h⟩:=z07 h
 obtain ⟨v2,k2,h⟩:=z07 h
 obtain ⟨v3,k3,h⟩:=z07 h
 obtain ⟨v4,k4,h⟩:=z07 h
 refine adv (ok X) 9 [.s (z1z v1) (z22 v1),.s (z0s v2) (z0t v2),.o [0,1,2,3,4,5,6,7],.s (z47 v3) (z48 v3),.bl (List.map z2l [v3.2]),.l (List.map z2l v4)] (pA (z29 (X:=X) k1) (pA (z0w (X:=X) k2) (pA (ih_parse_reader_arm _ _ k3) (pA (blc (e:=z2l) (x:=v3.2) (zbe _).symm (bl0 z2l)) (pA (apm (L:=[]) (M:=[v3.2]) zg7 k4) pT))))) (by kernel_rfl) ?_
 refine lp (ok X) (z6i (z1b n) (z0u n) (z12 n) (z24 n) (z1v n) (z0n n) (z1h n)) (fun (x1:((List z0g) × Int × Int × Int × Int × Int × (List z0y)))=>⟨36,1,[(0,[xP 0 0]),(2,[xP 1 0]),(3,[xP 2 0])],[oB 71 (bs (z02 (z00.mk x1.1 x1.2.1 x1.2.2.1 x1.2.2.2.1 x1.2.2.2.2.1 x1.2.2.2.2.2.1))),oB 108 [.pv (.int .i64 0),.pv (.str (ByteArray.mk #[])),.pv (.str (ByteArray.mk #[])),.pv (.int .i64 0),.pv (.int .i64 0),.pv (.str (ByteArray.mk #[])),.emp,.pv (.int .i64 0),.pv (.int .i64 0),.pv (.int .i64 0),.pv (.str (ByteArray.mk #[])),.emp,.pv (.int .i64 0),.pv (.int .i64 0),.pv (.str (ByteArray.mk #[])),.emp,.emp,.emp,.emp],oB 108 [.pv (.int .i64 5),.pv (.str v1.2),.pv (.str (ByteArray.mk #[])),.pv (.int .i64 0),.pv (.int .i64 0),.pv (.str (ByteArray.mk #[])),.emp,.pv (.int .i64 0),.pv (.int .i64 0),.pv (.int .i64 0),.pv (.str (ByteArray.mk #[])),.emp,.pv (.int .i64 0),.pv (.int .i64 0),.pv (.str (ByteArray.mk #[])),.emp,.emp,.emp,.row 3],oR true 156 3 (List.map z2l x1.2.2.2.2.2.2)]⟩) (fun (j1:((List z0g) × Int × Int × Int × Int × Int × (List z0y)))=>⟨36,1,[(0,[xP 0 0]),(2,[xP 1 0]),(3,[xP 2 0])],[oB 71 (bs (z02 (z00.mk j1.1 j1.2.1 j1.2.2.1 j1.2.2.2.1 j1.2.2.2.2.1 j1.2.2.2.2.2.1))),oB 108 [.pv (.int .i64 0),.pv (.str (ByteArray.mk #[])),.pv (.str (ByteArray.mk #[])),.pv (.int .i64 0),.pv (.int .i64 0),.pv (.str (ByteArray.mk #[])),.emp,.pv (.int .i64 0),.pv (.int .i64 0),.pv (.int .i64 0),.pv (.str (ByteArray.mk #[])),.emp,.pv (.int .i64 0),.pv (.int .i64 0),.pv (.str (ByteArray.mk #[])),.emp,.emp,.emp,.emp],oB 108 [.pv (.int .i64 5),.pv (.str v1.2),.pv (.str (ByteArray.mk #[])),.pv (.int .i64 0),.pv (.int .i64 0),.pv (.str (ByteArray.mk #[])),.emp,.pv (.int .i64 0),.pv (.int .i64 0),.pv (.int .i64 0),.pv (.str (ByteArray.mk #[])),.emp,.pv (.int .i64 0),.pv (.int .i64 0),.pv (.str (ByteArray.mk #[])),.emp,.emp,.emp,.row 3],oR true 156 3 (List.map z2l j1.2.2.2.2.2.2)]⟩) zjh (v3.1.f_l,v3.1.f_end,v3.1.f_e,v3.1.f_at,v3.1.f_deep,v3.1.f_in,v4) (fun _=>⟨_,_,_,_,rfl⟩) h (by kernel_rfl) (fun x1 o h=>?_) (fun r' h=>?_) (fun j1 h=>?_)
 ·unfold z6i at h
  refine adv (ok X) 2 [] pT (by kernel_rfl) ?_
  refine jn (ok X) 1 (fun (j2:Bool)=>⟨36,1,[(0,[xP 0 0]),(2,[xP 1 0]),(3,[xP 2 0]),(25,[xB j2])],[oB 71 (bs (z02 (z00.mk x1.1 x1.2.1 x1.2.2.1 x1.2.2.2.1 x1.2.2.2.2.1 x1.2.2.2.2.2.1))),oB 108 [.pv (.int .i64 0),.pv (.str (ByteArray.mk #[])),.pv (.str (ByteArray.mk #[])),.pv (.int .i64 0),.pv (.int .i64 0),.pv (.str (ByteArray.mk #[])),.emp,.pv (.int .i64 0),.pv (.int .i64 0),.pv (.int .i64 0),.pv (.str (ByteArray.mk #[])),.emp,.pv (.int .i64 0),.pv (.int .i64 0),.pv (.str (ByteArray.mk #[])),.emp,.emp,.emp,.emp],oB 108 [.pv (.int .i64 5),.pv (.str v1.2),.pv (.str (ByteArray.mk #[])),.pv (.int .i64 0),.pv (.int .i64 0),.pv (.str (ByteArray.mk #[])),.emp,.pv (.int .i64 0),.pv (.int .i64 0),.pv (.int .i64 0),.pv (.str (ByteArray.mk #[])),.emp,.pv (.int .i64 0),.pv (.int .i64 0),.pv (.str (ByteArray.mk #[])),.emp,.emp,.emp,.row 3],oR true 156 3 (List.map z2l x1.2.2.2.2.2.2)]⟩) h (fun j2 h=>?_) (fun j2 h=>?_)
  ·rcases iteE h with ⟨k5,h⟩|⟨k5,h⟩
   ·obtain ⟨v5,k6,h⟩:=z07 h
    obtain rfl:=retE h
    exact fin (ok X) 1 [.b true,.b true,.s (z58 v5) (z59 (z00.mk x1.1 x1.2.1 x1.2.2.1 x1.2.2.2.1 x1.2.2.2.2.1 x1.2.2.2.2.2.1) v5),.b true,.b true] (pA k5 (pA k5 (pA (z61 (X:=X) k6) (pA k5 (pA k5 pT))))) (by kernel_rfl)
   ·obtain rfl:=retE h
    exact fin (ok X) 1 (bF 4 []) (pR 4 k5 pT) (by kernel_rfl)
  ·rcases iteE h with ⟨k7,h⟩|⟨k7,h⟩
   ·obtain ⟨v6,k8,h⟩:=z07 h
    obtain ⟨v7,k9,h⟩:=z07 h
    obtain rfl:=retE h
    exact fin (ok X) 5 [.b true,.o [0,1,2,3,4,5,6,7],.s (z47 v6) (z48 v6),.bl (List.map z2l [v6.2]),.l (List.map z2l v7)] (pA k7 (pA (ih_parse_reader_arm _ _ k8) (pA (blc (e:=z2l) (x:=v6.2) (zbe _).symm (bl0 z2l)) (pA (apm (L:=x1.2.2.2.2.2.2) (M:=[v6.2]) zg7 k9) pT)))) (by kernel_rfl)
   ·obtain rfl:=retE h
    exact fin (ok X) 2 [.b false] (pA k7 pT) (by kernel_rfl)
 ·cases h
 ·obtain ⟨v8,k10,h⟩:=z07 h
  obtain rfl:=retE h
  exact fin (ok X) 5 [.s (z0s v8) (z0t v8)] (pA (z0w (X:=X) k10) pT) (by kernel_rfl)
theorem zil {n:Nat} (ih_parse_reader_stmts:∀ (a0:z00) (r:(z00 × (List z05))),z1b n a0=some r→Cs Tryz.prog (GX X) 61 [xP 0 0] [oB 71 (bs (z02 a0))] (z34 r) (z35 r)) (ih_parse_reader_stmt:∀ (a0:z00) (r:(z00 × z05 × Bool)),z0u n a0=some r→Cs Tryz.prog (GX X) 98 [xP 0 0] [oB 71 (bs (z02 a0))] (z4e r) (z4f r)) (ih_parse_reader_conditional:∀ (a0:z00) (r:(z00 × z05)),z12 n a0=some r→Cs Tryz.prog (GX X) 116 [xP 0 0] [oB 71 (bs (z02 a0))] (z2u r) (z2v r)) (ih_parse_reader_loop:∀ (a0:z00) (r:(z00 × z05)),z24 n a0=some r→Cs Tryz.prog (GX X) 117 [xP 0 0] [oB 71 (bs (z02 a0))] (z4g r) (z4h r)) (ih_parse_reader_recv:∀ (a0:z00) (r:(z00 × z05)),z1v n a0=some r→Cs Tryz.prog (GX X) 119 [xP 0 0] [oB 71 (bs (z02 a0))] (z3y r) (z3z r)) (ih_parse_reader_block:∀ (a0:z00) (r:(z00 × (List z05))),z0n n a0=some r→Cs Tryz.prog (GX X) 140 [xP 0 0] [oB 71 (bs (z02 a0))] (z36 r) (z38 r)) (ih_parse_reader_arm:∀ (a0:z00) (r:(z00 × z0y)),z1h n a0=some r→Cs Tryz.prog (GX X) 142 [xP 0 0] [oB 71 (bs (z02 a0))] (z47 r) (z48 r)) (a0:z00) (r:(z00 × (List z05))) (h:z0n (n+1) a0=some r):Cs Tryz.prog (GX X) 140 [xP 0 0] [oB 71 (bs (z02 a0))] (z36 r) (z38 r):=by
 refine fnT (cx:=cx X) Tryz.f140 Tryz.call140 Tryz.func140 (by kernel_rfl) ?_
 rw [z0n] at h
 refine adv (ok X) 4 [] pT (by kernel_rfl) ?_
 refine jn (ok X) 1 (fun (j1:Bool)=>⟨36,1,[(0,[xP 0 0]),(12,[xB j1])],[oB 71 (bs (z02 a0))]⟩) h (fun j1 h=>?_) (fun j1 h=>?_)
 ·obtain ⟨v1,k1,h⟩:=z07 h
  rcases iteE h with ⟨k2,h⟩|⟨k2,h⟩
  ·obtain rfl:=retE h
   exact fin (ok X) 1 (.s (z58 v1) (z59 a0 v1)::bT 6 []) (pA (z61 (X:=X) k1) (pR 6 k2 pT)) (by kernel_rfl)
  ·obtain rfl:=retE h
   exact fin (ok X) 1 (.s (z58 v1) (z59 a0 v1)::bF 6 []) (pA (z61 (X:=X) k1) (pR 6 k2 pT)) (by kernel_rfl)
 ·rcases iteE h with ⟨k3,h⟩|⟨k3,h⟩
  ·obtain ⟨v2,k4,h⟩:=z07 h
   obtain rfl:=retE h
   exact fin (ok X) 6 [.b true,.s (z5a v2) (z5b v2)] (pA k3 (pA (z62 (X:=X) k4) pT)) (by kernel_rfl)
  ·obtain ⟨v3,k5,h⟩:=z07 h
   obtain ⟨v4,k6,h⟩:=z07 h
   obtain ⟨v5,k7,h⟩:=z07 h
   obtain rfl:=retE h
   exact fin (ok X) 15 [.b false,.s (z0s v3) (z0t v3),.s (z34 v4) (z35 v4),.s (z0s v5) (z0t v5)] (pA k3 (pA (z0w (X:=X) k5) (pA (ih_parse_reader_stmts _ _ k6) (pA (z0w (X:=X) k7) pT)))) (by kernel_rfl)
theorem zkh {n:Nat} (ih_parse_reader_stmts:∀ (a0:z00) (r:(z00 × (List z05))),z1b n a0=some r→Cs Tryz.prog (GX X) 61 [xP 0 0] [oB 71 (bs (z02 a0))] (z34 r) (z35 r)) (ih_parse_reader_stmt:∀ (a0:z00) (r:(z00 × z05 × Bool)),z0u n a0=some r→Cs Tryz.prog (GX X) 98 [xP 0 0] [oB 71 (bs (z02 a0))] (z4e r) (z4f r)) (ih_parse_reader_conditional:∀ (a0:z00) (r:(z00 × z05)),z12 n a0=some r→Cs Tryz.prog (GX X) 116 [xP 0 0] [oB 71 (bs (z02 a0))] (z2u r) (z2v r)) (ih_parse_reader_loop:∀ (a0:z00) (r:(z00 × z05)),z24 n a0=some r→Cs Tryz.prog (GX X) 117 [xP 0 0] [oB 71 (bs (z02 a0))] (z4g r) (z4h r)) (ih_parse_reader_recv:∀ (a0:z00) (r:(z00 × z05)),z1v n a0=some r→Cs Tryz.prog (GX X) 119 [xP 0 0] [oB 71 (bs (z02 a0))] (z3y r) (z3z r)) (ih_parse_reader_block:∀ (a0:z00) (r:(z00 × (List z05))),z0n n a0=some r→Cs Tryz.prog (GX X) 140 [xP 0 0] [oB 71 (bs (z02 a0))] (z36 r) (z38 r)) (ih_parse_reader_arm:∀ (a0:z00) (r:(z00 × z0y)),z1h n a0=some r→Cs Tryz.prog (GX X) 142 [xP 0 0] [oB 71 (bs (z02 a0))] (z47 r) (z48 r)) (a0:z00) (r:(z00 × z0y)) (h:z1h (n+1) a0=some r):Cs Tryz.prog (GX X) 142 [xP 0 0] [oB 71 (bs (z02 a0))] (z47 r) (z48 r):=by
 refine fnT (cx:=cx X) Tryz.f142 Tryz.call142 Tryz.func142 (by kernel_rfl) ?_
 rw [z1h] at h
 obtain ⟨v1,k1,h⟩:=z07 h
 obtain ⟨v2,k2,h⟩:=z07 h
 obtain ⟨v3,k3,h⟩:=z07 h
 obtain ⟨v4,k4,h⟩:=z07 h
 obtain ⟨v5,k5,h⟩:=z07 h
 obtain rfl:=retE h
 exact fin (ok X) 15 [.s (z1z v1) (z22 v1),.s (z0s v2) (z0t v2),.s (z1z v3) (z22 v3),.s (z0s v4) (z0t v4),.s (z36 v5) (z38 v5)] (pA (z29 (X:=X) k1) (pA (z0w (X:=X) k2) (pA (z29 (X:=X) k3) (pA (z0w (X:=X) k4) (pA (ih_parse_reader_block _ _ k5) pT))))) (by kernel_rfl)
theorem zcl:∀ n:Nat,(∀ (a0:z00) (r:(z00 × (List z05))),z1b n a0=some r→Cs Tryz.prog (GX X) 61 [xP 0 0] [oB 71 (bs (z02 a0))] (z34 r) (z35 r))∧(∀ (a0:z00) (r:(z00 × z05 × Bool)),z0u n a0=some r→Cs Tryz.prog (GX X) 98 [xP 0 0] [oB 71 (bs (z02 a0))] (z4e r) (z4f r))∧(∀ (a0:z00) (r:(z00 × z05)),z12 n a0=some r→Cs Tryz.prog (GX X) 116 [xP 0 0] [oB 71 (bs (z02 a0))] (z2u r) (z2v r))∧(∀ (a0:z00) (r:(z00 × z05)),z24 n a0=some r→Cs Tryz.prog (GX X) 117 [xP 0 0] [oB 71 (bs (z02 a0))] (z4g r) (z4h r))∧(∀ (a0:z00) (r:(z00 × z05)),z1v n a0=some r→Cs Tryz.prog (GX X) 119 [xP 0 0] [oB 71 (bs (z02 a0))] (z3y r) (z3z r))∧(∀ (a0:z00) (r:(z00 × (List z05))),z0n n a0=some r→Cs Tryz.prog (GX X) 140 [xP 0 0] [oB 71 (bs (z02 a0))] (z36 r) (z38 r))∧(∀ (a0:z00) (r:(z00 × z0y)),z1h n a0=some r→Cs Tryz.prog (GX X) 142 [xP 0 0] [oB 71 (bs (z02 a0))] (z47 r) (z48 r))
 | 0=>⟨(fun _ _ h=>by rw [z1b] at h;cases h),(fun _ _ h=>by rw [z0u] at h;cases h),(fun _ _ h=>by rw [z12] at h;cases h),(fun _ _ h=>by rw [z24] at h;cases h),(fun _ _ h=>by rw [z1v] at h;cases h),(fun _ _ h=>by rw [z0n] at h;cases h),(fun _ _ h=>by rw [z1h] at h;cases h)⟩
 | n+1=>by
  have ih:=zcl n
  exact ⟨zik ih.1 ih.2.1 ih.2.2.1 ih.2.2.2.1 ih.2.2.2.2.1 ih.2.2.2.2.2.1 ih.2.2.2.2.2.2,zjp ih.1 ih.2.1 ih.2.2.1 ih.2.2.2.1 ih.2.2.2.2.1 ih.2.2.2.2.2.1 ih.2.2.2.2.2.2,zf0 ih.1 ih.2.1 ih.2.2.1 ih.2.2.2.1 ih.2.2.2.2.1 ih.2.2.2.2.2.1 ih.2.2.2.2.2.2,zjq ih.1 ih.2.1 ih.2.2.1 ih.2.2.2.1 ih.2.2.2.2.1 ih.2.2.2.2.2.1 ih.2.2.2.2.2.2,zjr ih.1 ih.2.1 ih.2.2.1 ih.2.2.2.1 ih.2.2.2.2.1 ih.2.2.2.2.2.1 ih.2.2.2.2.2.2,zil ih.1 ih.2.1 ih.2.2.1 ih.2.2.2.1 ih.2.2.2.2.1 ih.2.2.2.2.2.1 ih.2.2.2.2.2.2,zkh ih.1 ih.2.1 ih.2.2.1 ih.2.2.2.1 ih.2.2.2.2.1 ih.2.2.2.2.2.1 ih.2.2.2.2.2.2⟩
theorem zim {a0:z00} {r:(z00 × (List z05))} (h:z79 a0=some r):Cs Tryz.prog (GX X) 61 [xP 0 0] [oB 71 (bs (z02 a0))] (z34 r) (z35 r):=by
 obtain ⟨n,hn⟩:=unfE h
 exact (zcl n).1 _ _ hn
theorem zjs {a0:z00} {r:(z00 × z3h)} (h:z7v a0=some r):Cs Tryz.prog (GX X) 23 [xP 0 0] [oB 71 (bs (z02 a0))] (zb5 r) (zb6 r):=by
 refine fnT (cx:=cx X) Tryz.f23 Tryz.call23 Tryz.func23 (by kernel_rfl) ?_
 unfold z7v at h
 obtain ⟨v1,k1,h⟩:=z07 h
 obtain ⟨v2,k2,h⟩:=z07 h
 refine adv (ok X) 7 [.s (z1z v1) (z22 v1),.s (z0s v2) (z0t v2)] (pA (z29 (X:=X) k1) (pA (z0w (X:=X) k2) pT)) (by kernel_rfl) ?_
 refine lp (ok X) (z3n) (fun (x1:((List z0g) × Int × Int × Int × Int × Int × (List ByteArray)))=>⟨26,1,[(0,[xP 0 0]),(2,[xP 1 0]),(3,[xP 2 0])],[oB 71 (bs (z02 (z00.mk x1.1 x1.2.1 x1.2.2.1 x1.2.2.2.1 x1.2.2.2.2.1 x1.2.2.2.2.2.1))),oB 81 [.pv (.str (ByteArray.mk #[])),.emp,.emp],oB 81 [.pv (.str v1.2),.row 3,.emp],oR true 9 1 (List.map z1g x1.2.2.2.2.2.2)]⟩) (fun (j1:((List z0g) × Int × Int × Int × Int × Int × (List ByteArray)))=>⟨26,1,[(0,[xP 0 0]),(2,[xP 1 0]),(3,[xP 2 0])],[oB 71 (bs (z02 (z00.mk j1.1 j1.2.1 j1.2.2.1 j1.2.2.2.1 j1.2.2.2.2.1 j1.2.2.2.2.2.1))),oB 81 [.pv (.str (ByteArray.mk #[])),.emp,.emp],oB 81 [.pv (.str v1.2),.row 3,.emp],oR true 9 1 (List.map z1g j1.2.2.2.2.2.2)]⟩) zji (v2.f_l,v2.f_end,v2.f_e,v2.f_at,v2.f_deep,v2.f_in,[]) (fun _=>⟨_,_,_,_,rfl⟩) h (by kernel_rfl) (fun x1 o h=>?_) (fun r' h=>?_) (fun j1 h=>?_)
 ·unfold z3n at h
  obtain ⟨v3,k3,h⟩:=z07 h
  refine adv (ok X) 3 [.s (z2q v3) (z2r v3)] (pA (z33 (X:=X) k3) pT) (by kernel_rfl) ?_
  rcases iteE h with ⟨k4,h⟩|⟨k4,h⟩
  ·obtain ⟨v4,k5,h⟩:=z07 h
   obtain ⟨v5,k6,h⟩:=z07 h
   obtain ⟨v6,k7,h⟩:=z07 h
   obtain rfl:=retE h
   exact fin (ok X) 7 [.b true,.o [0,1,2,3,4,5,6,7],.s (z1z v4) (z22 v4),.l (List.map z1g v5),.s (z0s v6) (z0t v6)] (pA k4 (pA (z29 (X:=X) k5) (pA (apm (L:=x1.2.2.2.2.2.2) (M:=[v4.2]) z1t k6) (pA (z0w (X:=X) k7) pT)))) (by kernel_rfl)
  ·obtain rfl:=retE h
   exact fin (ok X) 2 [.b false] (pA k4 pT) (by kernel_rfl)
 ·cases h
 ·obtain ⟨v7,k8,h⟩:=z07 h
  obtain ⟨v8,k9,h⟩:=z07 h
  obtain rfl:=retE h
  exact fin (ok X) 7 [.s (z34 v7) (z35 v7),.s (z0s v8) (z0t v8)] (pA (zim (X:=X) k8) (pA (z0w (X:=X) k9) pT)) (by kernel_rfl)
theorem zgl {a0:ByteArray} {r:(z23 × Int × Int)} (h:z9u a0=some r):Cv Tryz.prog (GX X) 9 [xS a0] (za9 r):=by
 refine Cs.toV (?_:Cs Tryz.prog (GX X) 9 [xS a0] [] (za9 r) (zkc r)) (by kernel_rfl)
 refine fnT (cx:=cx X) Tryz.f9 Tryz.call9 Tryz.func9 (by kernel_rfl) ?_
 unfold z9u at h
 obtain ⟨v1,k1,h⟩:=z07 h
 refine adv (ok X) 7 [.c (zkb v1)] (pA (z006 (X:=X) k1) pT) (by kernel_rfl) ?_
 rcases iteE h with ⟨k2,h⟩|⟨k2,h⟩
 ·obtain rfl:=retE h
  exact fin (ok X) 4 [.b true] (pA k2 pT) (by kernel_rfl)
 ·refine adv (ok X) 7 [.b false] (pA k2 pT) (by kernel_rfl) ?_
  refine lp (ok X) (z6v) (fun (x1:((List z0g) × Int × Int × Int × Int × Int × (List z39)))=>⟨76,0,[(2,[xP 0 0]),(8,[xP 1 0]),(9,[xP 2 0])],[oB 26 [.emp,.emp,.emp],oB 71 (bs (z02 (z00.mk x1.1 x1.2.1 x1.2.2.1 x1.2.2.2.1 x1.2.2.2.2.1 x1.2.2.2.2.2.1))),oB 26 [.row 3,.emp,.emp],oR true 73 6 (List.map z2o x1.2.2.2.2.2.2)]⟩) (fun (j1:((List z0g) × Int × Int × Int × Int × Int × (List z39)))=>⟨76,0,[(2,[xP 0 0]),(8,[xP 1 0]),(9,[xP 2 0])],[oB 26 [.emp,.emp,.emp],oB 71 (bs (z02 (z00.mk j1.1 j1.2.1 j1.2.2.1 j1.2.2.2.1 j1.2.2.2.2.1 j1.2.2.2.2.2.1))),oB 26 [.row 3,.emp,.emp],oR true 73 6 (List.map z2o j1.2.2.2.2.2.2)]⟩) zgh (v1.1,(a0.size:Int),0,0,0,0,[]) (fun _=>⟨_,_,_,_,rfl⟩) h (by kernel_rfl) (fun x1 o h=>?_) (fun r' h=>?_) (fun j1 h=>?_)
  ·unfold z6v at h
   obtain ⟨v2,k3,h⟩:=z07 h
   refine adv (ok X) 3 [.s (z2q v2) (z2r v2)] (pA (z33 (X:=X) k3) pT) (by kernel_rfl) ?_
   rcases iteE h with ⟨k4,h⟩|⟨k4,h⟩
   ·obtain ⟨v3,k5,h⟩:=z07 h
    obtain ⟨v4,k6,h⟩:=z07 h
    obtain rfl:=retE h
    exact fin (ok X) 5 [.b true,.o [0,1,2,3,4,5,6,7],.s (z9j v3) (z9k v3),.l (List.map z2o v4)] (pA k4 (pA (zgy (X:=X) k5) (pA (apm (L:=x1.2.2.2.2.2.2) (M:=[v3.2]) ziu k6) pT))) (by kernel_rfl)
   ·obtain rfl:=retE h
    exact fin (ok X) 2 [.b false] (pA k4 pT) (by kernel_rfl)
  ·cases h
  ·refine adv (ok X) 1 [] pT (by kernel_rfl) ?_
   refine lp (ok X) (z6w) (fun (x2:((List z0g) × Int × Int × Int × Int × Int × (List z3g)))=>⟨76,0,[(2,[xP 0 0]),(8,[xP 1 0]),(9,[xP 2 0])],[oB 26 [.emp,.emp,.emp],oB 71 (bs (z02 (z00.mk x2.1 x2.2.1 x2.2.2.1 x2.2.2.2.1 x2.2.2.2.2.1 x2.2.2.2.2.2.1))),oB 26 [.row 3,.row 4,.emp],oR true 73 6 (List.map z2o j1.2.2.2.2.2.2),oR true 77 2 (List.map z3c x2.2.2.2.2.2.2)]⟩) (fun (j2:((List z0g) × Int × Int × Int × Int × Int × (List z3g)))=>⟨76,0,[(2,[xP 0 0]),(8,[xP 1 0]),(9,[xP 2 0])],[oB 26 [.emp,.emp,.emp],oB 71 (bs (z02 (z00.mk j2.1 j2.2.1 j2.2.2.1 j2.2.2.2.1 j2.2.2.2.2.1 j2.2.2.2.2.2.1))),oB 26 [.row 3,.row 4,.emp],oR true 73 6 (List.map z2o j1.2.2.2.2.2.2),oR true 77 2 (List.map z3c j2.2.2.2.2.2.2)]⟩) zgh (j1.1,j1.2.1,j1.2.2.1,j1.2.2.2.1,j1.2.2.2.2.1,j1.2.2.2.2.2.1,[]) (fun _=>⟨_,_,_,_,rfl⟩) h (by kernel_rfl) (fun x2 o h=>?_) (fun r' h=>?_) (fun j2 h=>?_)
   ·unfold z6w at h
    obtain ⟨v5,k7,h⟩:=z07 h
    refine adv (ok X) 3 [.s (z2q v5) (z2r v5)] (pA (z33 (X:=X) k7) pT) (by kernel_rfl) ?_
    rcases iteE h with ⟨k8,h⟩|⟨k8,h⟩
    ·obtain ⟨v6,k9,h⟩:=z07 h
     obtain ⟨v7,k10,h⟩:=z07 h
     obtain rfl:=retE h
     exact fin (ok X) 5 [.b true,.o [0,1,2,3,4,5,6,7],.s (zb3 v6) (zb4 v6),.l (List.map z3c v7)] (pA k8 (pA (zjl (X:=X) k9) (pA (apm (L:=x2.2.2.2.2.2.2) (M:=[v6.2]) ziw k10) pT))) (by kernel_rfl)
    ·obtain rfl:=retE h
     exact fin (ok X) 2 [.b false] (pA k8 pT) (by kernel_rfl)
   ·cases h
   ·refine adv (ok X) 1 [] pT (by kernel_rfl) ?_
    refine lp (ok X) (z69) (fun (x3:((List z0g) × Int × Int × Int × Int × Int × (List z3h)))=>⟨76,0,[(2,[xP 0 0]),(8,[xP 1 0]),(9,[xP 2 0])],[oB 26 [.emp,.emp,.emp],oB 71 (bs (z02 (z00.mk x3.1 x3.2.1 x3.2.2.1 x3.2.2.2.1 x3.2.2.2.2.1 x3.2.2.2.2.2.1))),oB 26 [.row 3,.row 4,.row 5],oR true 73 6 (List.map z2o j1.2.2.2.2.2.2),oR true 77 2 (List.map z3c j2.2.2.2.2.2.2),oR true 81 3 (List.map z0x x3.2.2.2.2.2.2)]⟩) (fun (j3:((List z0g) × Int × Int × Int × Int × Int × (List z3h)))=>⟨76,0,[(2,[xP 0 0]),(8,[xP 1 0]),(9,[xP 2 0])],[oB 26 [.emp,.emp,.emp],oB 71 (bs (z02 (z00.mk j3.1 j3.2.1 j3.2.2.1 j3.2.2.2.1 j3.2.2.2.2.1 j3.2.2.2.2.2.1))),oB 26 [.row 3,.row 4,.row 5],oR true 73 6 (List.map z2o j1.2.2.2.2.2.2),oR true 77 2 (List.map z3c j2.2.2.2.2.2.2),oR true 81 3 (List.map z0x j3.2.2.2.2.2.2)]⟩) zgh (j2.1,j2.2.1,j2.2.2.1,j2.2.2.2.1,j2.2.2.2.2.1,j2.2.2.2.2.2.1,[]) (fun _=>⟨_,_,_,_,rfl⟩) h (by kernel_rfl) (fun x3 o h=>?_) (fun r' h=>?_) (fun j3 h=>?_)
    ·unfold z69 at h
     obtain ⟨v8,k11,h⟩:=z07 h
     refine adv (ok X) 3 [.s (z2q v8) (z2r v8)] (pA (z33 (X:=X) k11) pT) (by kernel_rfl) ?_
     rcases iteE h with ⟨k12,h⟩|⟨k12,h⟩
     ·obtain ⟨v9,k13,h⟩:=z07 h
      obtain ⟨v10,k14,h⟩:=z07 h
      obtain rfl:=retE h
      exact fin (ok X) 5 [.b true,.o [0,1,2,3,4,5,6,7],.s (zb5 v9) (zb6 v9),.l (List.map z0x v10)] (pA k12 (pA (zjs (X:=X) k13) (pA (apm (L:=x3.2.2.2.2.2.2) (M:=[v9.2]) zix k14) pT))) (by kernel_rfl)
     ·obtain rfl:=retE h
      exact fin (ok X) 2 [.b false] (pA k12 pT) (by kernel_rfl)
    ·cases h
    ·refine adv (ok X) 3 [.i (j3.1.length:Int)] (pA (lm z2b j3.1) pT) (by kernel_rfl) ?_
     rcases iteE h with ⟨k15,h⟩|⟨k15,h⟩
     ·obtain ⟨v11,k16,h⟩:=z07 h
      refine adv (ok X) 5 [.b true,.s (z5a v11) (z5b v11)] (pA k15 (pA (z62 (X:=X) k16) pT)) (by kernel_rfl) ?_
      rcases iteE h with ⟨k17,h⟩|⟨k17,h⟩
      ·obtain rfl:=retE h
       exact fin (ok X) 4 [.b true,.o [0,1,2,3,4,5,6,7,8,9,10,11]] (pA k17 pT) (by kernel_rfl)
      ·obtain rfl:=retE h
       exact fin (ok X) 5 [.b false] (pA k17 pT) (by kernel_rfl)
     ·refine adv (ok X) 5 [.b false] (pA k15 pT) (by kernel_rfl) ?_
      rcases iteE h with ⟨k18,h⟩|⟨k18,h⟩
      ·obtain rfl:=retE h
       exact fin (ok X) 4 [.b true,.o [0,1,2,3,4,5,6,7,8,9,10,11]] (pA k18 pT) (by kernel_rfl)
      ·obtain rfl:=retE h
       exact fin (ok X) 5 [.b false] (pA k18 pT) (by kernel_rfl)
end Go.Proofs.YtokjbpmjdcbogaaGreatDoor.Abs

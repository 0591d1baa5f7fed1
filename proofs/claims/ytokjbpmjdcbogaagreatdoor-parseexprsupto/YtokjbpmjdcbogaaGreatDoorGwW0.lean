/- Gw: the functions are these. -/
import Derived.Test.YtokjbpmjdcbogaaGreatDoorGwF
namespace Go.Proofs.YtokjbpmjdcbogaaGreatDoor.Abs
open Go Go.RowKit
set_option linter.unusedVariables false
set_option maxRecDepth 100000
set_option maxHeartbeats 4000000
variable {X:EV}
theorem z033 {a0:ByteArray} {r:Int × Int} (h:zn9 a0=some r):Cv Tryz.prog (GX X) 94 [xS a0] (zw1 r):=ztu h
theorem z005 {a0:ByteArray} {a1:Int} {r:Int} (h:zts a0 a1=some r):Cv Tryz.prog (GX X) 114 [xS a0,.c (.pv (.int .u8 a1))] (ztr r):=zxy h
theorem z7r {a0:Int} {r:Bool} (h:zbf a0=some r):Cv Tryz.prog (GX X) 62 [.c (.pv (.int .u8 a0))] (z6j r):=by
 refine Cs.toV (?_:Cs Tryz.prog (GX X) 62 [.c (.pv (.int .u8 a0))] [] (z6j r) (zru r)) (by kernel_rfl)
 refine fnT (cx:=cx X) Tryz.f62 Tryz.call62 Tryz.func62 (by kernel_rfl) ?_
 unfold zbf at h
 rcases iteE h with ⟨k1,h⟩|⟨k1,h⟩
 ·obtain rfl:=retE h
  exact fin (ok X) 5 (bT 3 []) (pR 3 k1 pT) (by kernel_rfl)
 ·obtain rfl:=retE h
  exact fin (ok X) 5 (bF 3 []) (pR 3 k1 pT) (by kernel_rfl)
theorem zb7 {a0:Int} {r:Bool} (h:zcb a0=some r):Cv Tryz.prog (GX X) 63 [.c (.pv (.int .u8 a0))] (z91 r):=by
 refine Cs.toV (?_:Cs Tryz.prog (GX X) 63 [.c (.pv (.int .u8 a0))] [] (z91 r) (ztl r)) (by kernel_rfl)
 refine fnT (cx:=cx X) Tryz.f63 Tryz.call63 Tryz.func63 (by kernel_rfl) ?_
 unfold zcb at h
 rcases iteE h with ⟨k1,h⟩|⟨k1,h⟩
 ·obtain rfl:=retE h
  exact fin (ok X) 5 (bT 3 []) (pR 3 k1 pT) (by kernel_rfl)
 ·obtain rfl:=retE h
  exact fin (ok X) 5 (bF 3 []) (pR 3 k1 pT) (by kernel_rfl)
theorem ztv {r:(List ByteArray)} (h:zn2=some r):Cv Tryz.prog (GX X) 99 [] (zjc r):=by
 refine Cs.toV (?_:Cs Tryz.prog (GX X) 99 [] [] (zjc r) (ztm r)) (by kernel_rfl)
 refine fnT (cx:=cx X) Tryz.f99 Tryz.call99 Tryz.func99 (by kernel_rfl) ?_
 unfold zn2 at h
 obtain rfl:=retE h
 exact fin (ok X) 5 [] pT (by kernel_rfl)
theorem zoi {a0:ByteArray} {r:Bool} (h:zd6 a0=some r):Cv Tryz.prog (GX X) 64 [xS a0] (zd1 r):=by
 refine Cs.toV (?_:Cs Tryz.prog (GX X) 64 [xS a0] [] (zd1 r) (zis r)) (by kernel_rfl)
 refine fnT (cx:=cx X) Tryz.f64 Tryz.call64 Tryz.func64 (by kernel_rfl) ?_
 unfold zd6 at h
 obtain ⟨v1,k1,h⟩:=z07 h
 refine adv (ok X) 7 [.c (zjc v1)] (pA (ztv (X:=X) k1) pT) (by kernel_rfl) ?_
 refine lp (ok X) (z7y a0 v1) (fun (x1:Int)=>⟨18,0,[(0,[xS a0]),(3,[xL (List.map z1g v1)]),(4,[xI x1])],[]⟩) (fun (j1:Unit)=>⟨18,0,[],[]⟩) zo6 0 (fun _=>⟨_,_,_,_,rfl⟩) h (by kernel_rfl) (fun x1 o h=>?_) (fun r' h=>?_) (fun j1 h=>?_)
 ·unfold z7y at h
  refine adv (ok X) 3 [.i (v1.length:Int)] (pA (lm z1g v1) pT) (by kernel_rfl) ?_
  rcases iteE h with ⟨k2,h⟩|⟨k2,h⟩
  ·obtain ⟨v2,k3,h⟩:=z07 h
   refine adv (ok X) 6 [.b true,.e [.str v2]] (pA k2 (pA (ixm z1g k3) pT)) (by kernel_rfl) ?_
   rcases iteE h with ⟨k4,h⟩|⟨k4,h⟩
   ·obtain rfl:=retE h
    exact fin (ok X) 4 [.b true] (pA k4 pT) (by kernel_rfl)
   ·obtain rfl:=retE h
    exact fin (ok X) 4 [.b false] (pA k4 pT) (by kernel_rfl)
  ·obtain rfl:=retE h
   exact fin (ok X) 2 [.b false] (pA k2 pT) (by kernel_rfl)
 ·obtain rfl:=retE h
  kernel_rfl
 ·obtain rfl:=retE h
  exact fin (ok X) 3 [] pT (by kernel_rfl)
theorem zxz {a0:ByteArray} {a1:Int} {r:Int} (h:zk8 a0 a1=some r):Cv Tryz.prog (GX X) 65 [xS a0,xI a1] (zi6 r):=by
 refine Cs.toV (?_:Cs Tryz.prog (GX X) 65 [xS a0,xI a1] [] (zi6 r) (zp2 r)) (by kernel_rfl)
 refine fnT (cx:=cx X) Tryz.f65 Tryz.call65 Tryz.func65 (by kernel_rfl) ?_
 unfold zk8 at h
 refine adv (ok X) 7 [] pT (by kernel_rfl) ?_
 refine lp (ok X) (zcn a0 a1) (fun (x1:Int)=>⟨44,0,[(0,[xS a0]),(1,[xI a1]),(5,[xL (List.map z1g [(ByteArray.mk #[61,61]),(ByteArray.mk #[33,61]),(ByteArray.mk #[60,61]),(ByteArray.mk #[62,61])])]),(6,[xI x1])],[]⟩) (fun (j1:Unit)=>⟨44,0,[(0,[xS a0]),(1,[xI a1])],[]⟩) zp3 0 (fun _=>⟨_,_,_,_,rfl⟩) h (by kernel_rfl) (fun x1 o h=>?_) (fun r' h=>?_) (fun j1 h=>?_)
 ·unfold zcn at h
  rcases iteE h with ⟨k1,h⟩|⟨k1,h⟩
  ·refine adv (ok X) 8 [.b true] (pA k1 pT) (by kernel_rfl) ?_
   refine jn (ok X) 1 (fun (j2:Bool)=>⟨44,0,[(0,[xS a0]),(1,[xI a1]),(5,[xL (List.map z1g [(ByteArray.mk #[61,61]),(ByteArray.mk #[33,61]),(ByteArray.mk #[60,61]),(ByteArray.mk #[62,61])])]),(6,[xI x1]),(30,[xB j2])],[]⟩) h (fun j2 h=>?_) (fun j2 h=>?_)
   ·rcases iteE h with ⟨k2,h⟩|⟨k2,h⟩
    ·obtain ⟨v1,k3,h⟩:=z07 h
     obtain ⟨v2,k4,h⟩:=z07 h
     obtain rfl:=retE h
     exact fin (ok X) 1 (.o [0,1,2,3,4,5,6,7,8,9,10,11,12,13,14,15,16]::bT 5 (.x [xS v1]::bT 3 (.e [.str v2]::bT 3 []))) (pR 5 k2 (pA k3 (pR 3 k2 (pA (ixm z1g k4) (pR 3 k2 pT))))) (by kernel_rfl)
    ·obtain rfl:=retE h
     exact fin (ok X) 1 (.o [0,1,2,3,4,5,6,7,8,9,10,11,12,13,14,15,16]::bF 11 []) (pR 11 k2 pT) (by kernel_rfl)
   ·rcases iteE h with ⟨k5,h⟩|⟨k5,h⟩
    ·obtain rfl:=retE h
     exact fin (ok X) 4 [.b true] (pA k5 pT) (by kernel_rfl)
    ·obtain rfl:=retE h
     exact fin (ok X) 4 [.b false] (pA k5 pT) (by kernel_rfl)
  ·obtain rfl:=retE h
   exact fin (ok X) 5 [.b false] (pA k1 pT) (by kernel_rfl)
 ·obtain rfl:=retE h
  kernel_rfl
 ·refine adv (ok X) 5 [] pT (by kernel_rfl) ?_
  refine lp (ok X) (zco a0 a1) (fun (x3:Int)=>⟨44,0,[(0,[xS a0]),(1,[xI a1]),(7,[xS (ByteArray.mk #[123,125,40,41,59,44,46,61,60,62,43,45,42,47,37])]),(8,[xI x3])],[]⟩) (fun (j3:Unit)=>⟨44,0,[],[]⟩) zp3 0 (fun _=>⟨_,_,_,_,rfl⟩) h (by kernel_rfl) (fun x3 o h=>?_) (fun r' h=>?_) (fun j3 h=>?_)
  ·unfold zco at h
   rcases iteE h with ⟨k6,h⟩|⟨k6,h⟩
   ·obtain ⟨v3,k7,h⟩:=z07 h
    obtain ⟨v4,k8,h⟩:=z07 h
    refine adv (ok X) 9 [.b true,.o [0,1,2,3,4,5,6],.i v3,.i v4] (pA k6 (pA k7 (pA k8 pT))) (by kernel_rfl) ?_
    rcases iteE h with ⟨k9,h⟩|⟨k9,h⟩
    ·obtain rfl:=retE h
     exact fin (ok X) 4 [.b true] (pA k9 pT) (by kernel_rfl)
    ·obtain rfl:=retE h
     exact fin (ok X) 4 [.b false] (pA k9 pT) (by kernel_rfl)
   ·obtain rfl:=retE h
    exact fin (ok X) 5 [.b false] (pA k6 pT) (by kernel_rfl)
  ·obtain rfl:=retE h
   kernel_rfl
  ·obtain rfl:=retE h
   exact fin (ok X) 3 [] pT (by kernel_rfl)
theorem zs4 {a0:ByteArray} {r:((List z0r) × Int × Int)} (h:zh9 a0=some r):Cv Tryz.prog (GX X) 25 [xS a0] (zha r):=by
 refine Cs.toV (?_:Cs Tryz.prog (GX X) 25 [xS a0] [] (zha r) (zrv r)) (by kernel_rfl)
 refine fnT (cx:=cx X) Tryz.f25 Tryz.call25 Tryz.func25 (by kernel_rfl) ?_
 unfold zh9 at h
 refine adv (ok X) 7 [] pT (by kernel_rfl) ?_
 refine lp (ok X) (z9e a0) (fun (x1:(Int × (List z0r)))=>⟨153,0,[(0,[xS a0]),(5,[xR 0]),(6,[xI x1.1])],[oR true 146 4 (List.map z0v x1.2)]⟩) (fun (j1:(List z0r))=>⟨153,0,[(0,[xS a0]),(5,[xR 0])],[oR true 146 4 (List.map z0v j1)]⟩) zk9 (0,[]) (fun _=>⟨_,_,_,_,rfl⟩) h (by kernel_rfl) (fun x1 o h=>?_) (fun r' h=>?_) (fun j1 h=>?_)
 ·unfold z9e at h
  rcases iteE h with ⟨k1,h⟩|⟨k1,h⟩
  ·obtain ⟨v1,k2,h⟩:=z07 h
   refine adv (ok X) 10 [.b true,.i v1] (pA k1 (pA k2 pT)) (by kernel_rfl) ?_
   refine jn (ok X) 1 (fun (j2:Bool)=>⟨153,0,[(0,[xS a0]),(5,[xR 0]),(6,[xI x1.1]),(7,[.c (.pv (.int .u8 v1))]),(24,[xB j2])],[oR true 146 4 (List.map z0v x1.2)]⟩) h (fun j2 h=>?_) (fun j2 h=>?_)
   ·rcases iteE h with ⟨k3,h⟩|⟨k3,h⟩
    ·obtain rfl:=retE h
     exact fin (ok X) 1 (bT 3 []) (pR 3 k3 pT) (by kernel_rfl)
    ·obtain rfl:=retE h
     exact fin (ok X) 1 (bF 3 []) (pR 3 k3 pT) (by kernel_rfl)
   ·rcases iteE h with ⟨k4,h⟩|⟨k4,h⟩
    ·obtain rfl:=retE h
     exact fin (ok X) 4 [.b true] (pA k4 pT) (by kernel_rfl)
    ·refine adv (ok X) 5 [.b false] (pA k4 pT) (by kernel_rfl) ?_
     refine lp (ok X) (za5 a0 v1) (fun (x3:Int)=>⟨153,0,[(0,[xS a0]),(5,[xR 0]),(6,[xI x1.1]),(7,[.c (.pv (.int .u8 v1))]),(8,[xI x3])],[oR true 146 4 (List.map z0v x1.2)]⟩) (fun (j3:Int)=>⟨153,0,[(0,[xS a0]),(5,[xR 0]),(6,[xI x1.1]),(7,[.c (.pv (.int .u8 v1))]),(8,[xI j3])],[oR true 146 4 (List.map z0v x1.2)]⟩) zk9 x1.1 (fun _=>⟨_,_,_,_,rfl⟩) h (by kernel_rfl) (fun x3 o h=>?_) (fun r' h=>?_) (fun j3 h=>?_)
     ·unfold za5 at h
      refine adv (ok X) 2 [] pT (by kernel_rfl) ?_
      refine jn (ok X) 1 (fun (j4:Bool)=>⟨153,0,[(0,[xS a0]),(5,[xR 0]),(6,[xI x1.1]),(7,[.c (.pv (.int .u8 v1))]),(8,[xI x3]),(51,[xB j4])],[oR true 146 4 (List.map z0v x1.2)]⟩) h (fun j4 h=>?_) (fun j4 h=>?_)
      ·rcases iteE h with ⟨k5,h⟩|⟨k5,h⟩
       ·obtain ⟨v2,k6,h⟩:=z07 h
        rcases iteE h with ⟨k7,h⟩|⟨k7,h⟩
        ·obtain ⟨v3,k8,h⟩:=z07 h
         obtain ⟨v4,k9,h⟩:=z07 h
         rcases iteE h with ⟨k10,h⟩|⟨k10,h⟩
         ·obtain rfl:=retE h
          exact fin (ok X) 1 (.b true::.b true::.c (z6j v2)::bT 9 (.i v3::.b true::.c (z6j v4)::bT 8 [])) (pA k5 (pA k5 (pA (z7r (X:=X) k6) (pA k5 (pA k7 (pA k7 (pA k5 (pA k7 (pA k5 (pR 3 tt (pA k8 (pA tt (pA (z7r (X:=X) k9) (pA tt (pR 4 k10 (pA tt (pA k10 (pA tt pT)))))))))))))))))) (by kernel_rfl)
         ·obtain ⟨v5,k11,h⟩:=z07 h
          obtain ⟨v6,k12,h⟩:=z07 h
          obtain rfl:=retE h
          exact fin (ok X) 1 (.b true::.b true::.c (z6j v2)::bT 9 (.i v3::.b true::.c (z6j v4)::.b true::bF 3 [.i v5,.b false,.c (z91 v6),.b true,.b false,.b true])) (pA k5 (pA k5 (pA (z7r (X:=X) k6) (pA k5 (pA k7 (pA k7 (pA k5 (pA k7 (pA k5 (pR 3 tt (pA k8 (pA tt (pA (z7r (X:=X) k9) (pA tt (pR 3 k10 (pA k11 (pA k10 (pA (zb7 (X:=X) k12) (pA tt (pA k10 (pA tt pT))))))))))))))))))))) (by kernel_rfl)
        ·obtain ⟨v7,k13,h⟩:=z07 h
         rcases iteE h with ⟨k14,h⟩|⟨k14,h⟩
         ·obtain ⟨v8,k15,h⟩:=z07 h
          obtain ⟨v9,k16,h⟩:=z07 h
          rcases iteE h with ⟨k17,h⟩|⟨k17,h⟩
          ·obtain rfl:=retE h
           exact fin (ok X) 1 (.b true::.b true::.c (z6j v2)::.b true::.b false::.b false::.c (z91 v7)::.b true::.b false::bT 4 (.i v8::.b true::.c (z6j v9)::bT 8 [])) (pA k5 (pA k5 (pA (z7r (X:=X) k6) (pA k5 (pA k7 (pA k7 (pA (zb7 (X:=X) k13) (pA k5 (pA k7 (pA k5 (pR 3 k14 (pA k15 (pA k14 (pA (z7r (X:=X) k16) (pA k14 (pR 4 k17 (pA k14 (pA k17 (pA k14 pT))))))))))))))))))) (by kernel_rfl)
          ·obtain ⟨v10,k18,h⟩:=z07 h
           obtain ⟨v11,k19,h⟩:=z07 h
           obtain rfl:=retE h
           exact fin (ok X) 1 (.b true::.b true::.c (z6j v2)::.b true::.b false::.b false::.c (z91 v7)::.b true::.b false::bT 4 (.i v8::.b true::.c (z6j v9)::.b true::bF 3 [.i v10,.b false,.c (z91 v11),.b true,.b false,.b true])) (pA k5 (pA k5 (pA (z7r (X:=X) k6) (pA k5 (pA k7 (pA k7 (pA (zb7 (X:=X) k13) (pA k5 (pA k7 (pA k5 (pR 3 k14 (pA k15 (pA k14 (pA (z7r (X:=X) k16) (pA k14 (pR 3 k17 (pA k18 (pA k17 (pA (zb7 (X:=X) k19) (pA k14 (pA k17 (pA k14 pT)))))))))))))))))))))) (by kernel_rfl)
         ·obtain rfl:=retE h
          exact fin (ok X) 1 (.b true::.b true::.c (z6j v2)::.b true::.b false::.b false::.c (z91 v7)::.b true::.b false::.b true::bF 7 []) (pA k5 (pA k5 (pA (z7r (X:=X) k6) (pA k5 (pA k7 (pA k7 (pA (zb7 (X:=X) k13) (pA k5 (pA k7 (pA k5 (pR 7 k14 pT))))))))))) (by kernel_rfl)
       ·obtain rfl:=retE h
        exact fin (ok X) 1 (bF 12 []) (pR 5 k5 (pR 7 ff pT)) (by kernel_rfl)
      ·rcases iteE h with ⟨k20,h⟩|⟨k20,h⟩
       ·obtain rfl:=retE h
        exact fin (ok X) 5 [.b true] (pA k20 pT) (by kernel_rfl)
       ·obtain rfl:=retE h
        exact fin (ok X) 2 [.b false] (pA k20 pT) (by kernel_rfl)
     ·cases h
     ·refine adv (ok X) 3 [] pT (by kernel_rfl) ?_
      refine jr (ok X) 1 (fun (j5:(Int × Int × ByteArray × Int))=>⟨153,0,[(0,[xS a0]),(5,[xR 0]),(8,[xI j5.1]),(9,[xP 1 0])],[oR true 146 4 (List.map z0v x1.2),oB 146 (bs (z0v (z0r.mk j5.2.1 j5.2.2.1 j5.2.2.2 x1.1)))]⟩) zk9 (fun _=>⟨_,_,_,_,rfl⟩) h (fun o h=>?_) (fun r' h=>?_) (fun j5 h=>?_)
      ·obtain ⟨v12,k21,h⟩:=z07 h
       refine adv (ok X) 3 [.c (z6j v12)] (pA (z7r (X:=X) k21) pT) (by kernel_rfl) ?_
       rcases iteE h with ⟨k22,h⟩|⟨k22,h⟩
       ·obtain ⟨v13,k23,h⟩:=z07 h
        obtain ⟨v14,k24,h⟩:=z07 h
        refine adv (ok X) 6 [.b true,.o [0,1,2,3,4,5,6,7],.x [xS v13],.c (zd1 v14)] (pA k22 (pA k23 (pA (zoi (X:=X) k24) pT))) (by kernel_rfl) ?_
        rcases iteE h with ⟨k25,h⟩|⟨k25,h⟩
        ·refine adv (ok X) 4 [.b true] (pA k25 pT) (by kernel_rfl) ?_
         rcases iteE h with ⟨k26,h⟩|⟨k26,h⟩
         ·obtain rfl:=retE h
          exact fin (ok X) 4 [.b true] (pA k26 pT) (by kernel_rfl)
         ·obtain rfl:=retE h
          exact fin (ok X) 3 [.b false] (pA k26 pT) (by kernel_rfl)
        ·refine adv (ok X) 4 [.b false] (pA k25 pT) (by kernel_rfl) ?_
         rcases iteE h with ⟨k27,h⟩|⟨k27,h⟩
         ·obtain rfl:=retE h
          exact fin (ok X) 4 [.b true] (pA k27 pT) (by kernel_rfl)
         ·obtain rfl:=retE h
          exact fin (ok X) 3 [.b false] (pA k27 pT) (by kernel_rfl)
       ·obtain ⟨v15,k28,h⟩:=z07 h
        refine adv (ok X) 3 [.b false,.c (z91 v15)] (pA k22 (pA (zb7 (X:=X) k28) pT)) (by kernel_rfl) ?_
        rcases iteE h with ⟨k29,h⟩|⟨k29,h⟩
        ·obtain ⟨v16,k30,h⟩:=z07 h
         refine adv (ok X) 5 [.b true,.o [0,1,2,3,4,5,6,7],.x [xS v16]] (pA k29 (pA k30 pT)) (by kernel_rfl) ?_
         refine jn (ok X) 1 (fun (j6:Bool)=>⟨153,0,[(0,[xS a0]),(5,[xR 0]),(6,[xI x1.1]),(8,[xI j3]),(9,[xP 1 0]),(111,[xB j6])],[oR true 146 4 (List.map z0v x1.2),oB 146 (bs (z0v (z0r.mk 2 v16 0 x1.1)))]⟩) h (fun j6 h=>?_) (fun j6 h=>?_)
         ·rcases iteE h with ⟨k31,h⟩|⟨k31,h⟩
          ·obtain rfl:=retE h
           exact fin (ok X) 1 (bT 7 []) (pR 7 k31 pT) (by kernel_rfl)
          ·rcases iteE h with ⟨k32,h⟩|⟨k32,h⟩
           ·obtain rfl:=retE h
            exact fin (ok X) 1 (bF 5 [.b true,.b true,.b false,.b true,.b false]) (pR 5 k31 (pA k32 (pA k32 (pA k31 (pA k32 (pA k31 pT)))))) (by kernel_rfl)
           ·obtain rfl:=retE h
            exact fin (ok X) 1 (bF 10 []) (pR 5 k31 (pA k32 (pA k32 (pA k31 (pA k32 (pA k31 pT)))))) (by kernel_rfl)
         ·rcases iteE h with ⟨k33,h⟩|⟨k33,h⟩
          ·obtain rfl:=retE h
           exact fin (ok X) 4 [.b true] (pA k33 pT) (by kernel_rfl)
          ·refine adv (ok X) 5 [.b false] (pA k33 pT) (by kernel_rfl) ?_
           refine lp (ok X) (zbg v16 x1) (fun (x7:(Int × Int))=>⟨153,0,[(0,[xS a0]),(5,[xR 0]),(6,[xI x1.1]),(8,[xI j3]),(9,[xP 1 0]),(10,[xI x7.1])],[oR true 146 4 (List.map z0v x1.2),oB 146 (bs (z0v (z0r.mk 2 v16 x7.2 x1.1)))]⟩) (fun (j7:Int)=>⟨153,0,[(0,[xS a0]),(5,[xR 0]),(6,[xI x1.1]),(8,[xI j3]),(9,[xP 1 0])],[oR true 146 4 (List.map z0v x1.2),oB 146 (bs (z0v (z0r.mk 2 v16 j7 x1.1)))]⟩) zk9 (0,0) (fun _=>⟨_,_,_,_,rfl⟩) h (by kernel_rfl) (fun x7 o h=>?_) (fun r' h=>?_) (fun j7 h=>?_)
           ·unfold zbg at h
            rcases iteE h with ⟨k34,h⟩|⟨k34,h⟩
            ·obtain ⟨v17,k35,h⟩:=z07 h
             obtain ⟨v18,k36,h⟩:=z07 h
             refine adv (ok X) 10 [.b true,.i v17,.c (z91 v18)] (pA k34 (pA k35 (pA (zb7 (X:=X) k36) pT))) (by kernel_rfl) ?_
             rcases iteE h with ⟨k37,h⟩|⟨k37,h⟩
             ·obtain rfl:=retE h
              exact fin (ok X) 4 [.b true] (pA k37 pT) (by kernel_rfl)
             ·obtain ⟨v19,k38,h⟩:=z07 h
              obtain rfl:=retE h
              exact fin (ok X) 5 [.b false,.o [0,1,2,3,4,5,6,7,8,9,10,11],.i v19] (pA k37 (pA k38 pT)) (by kernel_rfl)
            ·obtain rfl:=retE h
             exact fin (ok X) 5 [.b false] (pA k34 pT) (by kernel_rfl)
           ·obtain rfl:=retE h
            kernel_rfl
           ·rcases iteE h with ⟨k39,h⟩|⟨k39,h⟩
            ·obtain rfl:=retE h
             exact fin (ok X) 6 [.b true] (pA k39 pT) (by kernel_rfl)
            ·obtain rfl:=retE h
             exact fin (ok X) 5 [.b false] (pA k39 pT) (by kernel_rfl)
        ·obtain ⟨v20,k40,h⟩:=z07 h
         refine adv (ok X) 6 [.b false,.c (zi6 v20)] (pA k29 (pA (zxz (X:=X) k40) pT)) (by kernel_rfl) ?_
         rcases iteE h with ⟨k41,h⟩|⟨k41,h⟩
         ·obtain rfl:=retE h
          exact fin (ok X) 4 [.b true] (pA k41 pT) (by kernel_rfl)
         ·obtain ⟨v21,k42,h⟩:=z07 h
          obtain rfl:=retE h
          exact fin (ok X) 6 [.b false,.o [0,1,2,3,4,5,6,7],.x [xS v21]] (pA k41 (pA k42 pT)) (by kernel_rfl)
      ·obtain rfl:=retE h
       kernel_rfl
      ·obtain ⟨v22,k43,h⟩:=z07 h
       obtain rfl:=retE h
       exact fin (ok X) 4 [.l (List.map z0v v22)] (pA (apm (L:=x1.2) (M:=[(z0r.mk j5.2.1 j5.2.2.1 j5.2.2.2 x1.1)]) zng k43) pT) (by kernel_rfl)
  ·obtain rfl:=retE h
   exact fin (ok X) 5 [.b false] (pA k1 pT) (by kernel_rfl)
 ·obtain rfl:=retE h
  kernel_rfl
 ·refine adv (ok X) 3 [.i (j1.length:Int)] (pA (lm z0v j1) pT) (by kernel_rfl) ?_
  rcases iteE h with ⟨k44,h⟩|⟨k44,h⟩
  ·obtain rfl:=retE h
   exact fin (ok X) 4 [.b true] (pA k44 pT) (by kernel_rfl)
  ·obtain rfl:=retE h
   exact fin (ok X) 5 [.b false] (pA k44 pT) (by kernel_rfl)
theorem z25 {a0:ByteArray} {r:Bool} (h:z74 a0=some r):Cv Tryz.prog (GX X) 75 [xS a0] (z1y r):=by
 refine Cs.toV (?_:Cs Tryz.prog (GX X) 75 [xS a0] [] (z1y r) (zxo r)) (by kernel_rfl)
 refine fnT (cx:=cx X) Tryz.f75 Tryz.call75 Tryz.func75 (by kernel_rfl) ?_
 unfold z74 at h
 obtain ⟨v1,k1,h⟩:=z07 h
 refine adv (ok X) 5 [.c (zha v1)] (pA (zs4 (X:=X) k1) pT) (by kernel_rfl) ?_
 rcases iteE h with ⟨k2,h⟩|⟨k2,h⟩
 ·rcases iteE h with ⟨k3,h⟩|⟨k3,h⟩
  ·obtain ⟨v2,k4,h⟩:=z07 h
   rcases iteE h with ⟨k5,h⟩|⟨k5,h⟩
   ·obtain ⟨v3,k6,h⟩:=z07 h
    obtain rfl:=retE h
    exact fin (ok X) 2 (.b true::.b true::.i (v1.1.length:Int)::bT 4 (.e (z0v v2)::bT 6 (.e (z0v v3)::bT 5 []))) (pA k2 (pA k2 (pA (lm z0v v1.1) (pA k2 (pA k2 (pA k3 (pA k3 (pA (ixm z0v k4) (pR 4 k3 (pA k5 (pA k5 (pA (ixm z0v k6) (pR 5 k5 pT))))))))))))) (by kernel_rfl)
   ·obtain rfl:=retE h
    exact fin (ok X) 2 (.b true::.b true::.i (v1.1.length:Int)::bT 4 (.e (z0v v2)::bT 4 (bF 7 []))) (pA k2 (pA k2 (pA (lm z0v v1.1) (pA k2 (pA k2 (pA k3 (pA k3 (pA (ixm z0v k4) (pR 4 k3 (pR 7 k5 pT)))))))))) (by kernel_rfl)
  ·obtain rfl:=retE h
   exact fin (ok X) 2 (.b true::.b true::.i (v1.1.length:Int)::.b true::.b true::bF 13 []) (pA k2 (pA k2 (pA (lm z0v v1.1) (pA k2 (pA k2 (pR 6 k3 (pR 7 ff pT))))))) (by kernel_rfl)
 ·obtain rfl:=retE h
  exact fin (ok X) 2 (bF 17 []) (pR 4 k2 (pR 13 ff pT)) (by kernel_rfl)
theorem z8m {a0:Int} {r:Bool} (h:zbh a0=some r):Cv Tryz.prog (GX X) 76 [xI a0] (z6y r):=by
 refine Cs.toV (?_:Cs Tryz.prog (GX X) 76 [xI a0] [] (z6y r) (zrw r)) (by kernel_rfl)
 refine fnT (cx:=cx X) Tryz.f76 Tryz.call76 Tryz.func76 (by kernel_rfl) ?_
 unfold zbh at h
 rcases iteE h with ⟨k1,h⟩|⟨k1,h⟩
 ·obtain rfl:=retE h
  exact fin (ok X) 5 (bT 3 []) (pR 3 k1 pT) (by kernel_rfl)
 ·obtain rfl:=retE h
  exact fin (ok X) 5 (bF 3 []) (pR 3 k1 pT) (by kernel_rfl)
theorem zhk {a0:Int} {r:Bool} (h:zg8 a0=some r):Cv Tryz.prog (GX X) 104 [xI a0] (zeg r):=by
 refine Cs.toV (?_:Cs Tryz.prog (GX X) 104 [xI a0] [] (zeg r) (z002 r)) (by kernel_rfl)
 refine fnT (cx:=cx X) Tryz.f104 Tryz.call104 Tryz.func104 (by kernel_rfl) ?_
 unfold zg8 at h
 rcases iteE h with ⟨k1,h⟩|⟨k1,h⟩
 ·obtain rfl:=retE h
  exact fin (ok X) 5 (bT 3 []) (pR 3 k1 pT) (by kernel_rfl)
 ·obtain rfl:=retE h
  exact fin (ok X) 5 (bF 3 []) (pR 3 k1 pT) (by kernel_rfl)
theorem zy0 {n:Nat} (ih_r02_expr:∀ (a0:z04) (r:Bool),z6d n a0=some r→Cv Tryz.prog (GX X) 102 [.agg (bs (z0f a0))] (z76 r)) (a0:z04) (r:Bool) (h:z6d (n+1) a0=some r):Cv Tryz.prog (GX X) 102 [.agg (bs (z0f a0))] (z76 r):=by
 refine Cs.toV (?_:Cs Tryz.prog (GX X) 102 [.agg (bs (z0f a0))] [] (z76 r) (zxp r)) (by kernel_rfl)
 refine fnT (cx:=cx X) Tryz.f102 Tryz.call102 Tryz.func102 (by kernel_rfl) ?_
 rw [z6d] at h
 rcases iteE h with ⟨k1,h⟩|⟨k1,h⟩
 ·refine adv (ok X) 8 [.b true] (pA k1 pT) (by kernel_rfl) ?_
  refine jn (ok X) 1 (fun (j1:Bool)=>⟨66,0,[(2,[xB j1])],[]⟩) h (fun j1 h=>?_) (fun j1 h=>?_)
  ·obtain ⟨v1,k2,h⟩:=z07 h
   rcases iteE h with ⟨k3,h⟩|⟨k3,h⟩
   ·obtain rfl:=retE h
    exact fin (ok X) 1 (.c (z6y v1)::bT 3 [.i (a0.Kids.length:Int),.b true,.b true]) (pA (z8m (X:=X) k2) (pR 3 k3 (pA (lm z1l a0.Kids) (pA k3 (pA k3 pT))))) (by kernel_rfl)
   ·obtain rfl:=retE h
    exact fin (ok X) 1 (.c (z6y v1)::bF 5 []) (pA (z8m (X:=X) k2) (pR 5 k3 pT)) (by kernel_rfl)
  ·obtain rfl:=retE h
   exact fin (ok X) 1 [] pT (by kernel_rfl)
 ·refine adv (ok X) 9 [.b false] (pA k1 pT) (by kernel_rfl) ?_
  rcases iteE h with ⟨k4,h⟩|⟨k4,h⟩
  ·refine adv (ok X) 2 [.b true] (pA k4 pT) (by kernel_rfl) ?_
   refine jn (ok X) 1 (fun (j2:Bool)=>⟨66,0,[(2,[xB j2])],[]⟩) h (fun j2 h=>?_) (fun j2 h=>?_)
   ·obtain ⟨v2,k5,h⟩:=z07 h
    rcases iteE h with ⟨k6,h⟩|⟨k6,h⟩
    ·obtain rfl:=retE h
     exact fin (ok X) 1 (.c (z1y v2)::bT 3 [.i (a0.Kids.length:Int),.b true,.b true]) (pA (z25 (X:=X) k5) (pR 3 k6 (pA (lm z1l a0.Kids) (pA k6 (pA k6 pT))))) (by kernel_rfl)
    ·obtain rfl:=retE h
     exact fin (ok X) 1 (.c (z1y v2)::bF 5 []) (pA (z25 (X:=X) k5) (pR 5 k6 pT)) (by kernel_rfl)
   ·obtain rfl:=retE h
    exact fin (ok X) 1 [] pT (by kernel_rfl)
  ·refine adv (ok X) 3 [.b false] (pA k4 pT) (by kernel_rfl) ?_
   rcases iteE h with ⟨k7,h⟩|⟨k7,h⟩
   ·refine adv (ok X) 2 [.b true] (pA k7 pT) (by kernel_rfl) ?_
    refine jn (ok X) 1 (fun (j3:Bool)=>⟨66,0,[(2,[xB j3])],[]⟩) h (fun j3 h=>?_) (fun j3 h=>?_)
    ·rcases iteE h with ⟨k8,h⟩|⟨k8,h⟩
     ·obtain ⟨v3,k9,h⟩:=z07 h
      obtain ⟨v4,k10,h⟩:=z07 h
      obtain rfl:=retE h
      exact fin (ok X) 1 (.i (a0.Kids.length:Int)::bT 3 [.e (z0f v3),.b true,.b true,.c (z76 v4),.b true]) (pA (lm z1l a0.Kids) (pR 3 k8 (pA (ixr z26 k9) (pA k8 (pA k8 (pA (ih_r02_expr _ _ k10) (pA k8 pT))))))) (by kernel_rfl)
     ·obtain rfl:=retE h
      exact fin (ok X) 1 (.i (a0.Kids.length:Int)::bF 6 []) (pA (lm z1l a0.Kids) (pR 6 k8 pT)) (by kernel_rfl)
    ·obtain rfl:=retE h
     exact fin (ok X) 1 [] pT (by kernel_rfl)
   ·obtain ⟨v5,k11,h⟩:=z07 h
    refine adv (ok X) 3 [.b false,.c (zeg v5)] (pA k7 (pA (zhk (X:=X) k11) pT)) (by kernel_rfl) ?_
    rcases iteE h with ⟨k12,h⟩|⟨k12,h⟩
    ·refine adv (ok X) 2 [.b true] (pA k12 pT) (by kernel_rfl) ?_
     refine jn (ok X) 1 (fun (j4:Bool)=>⟨66,0,[(2,[xB j4])],[]⟩) h (fun j4 h=>?_) (fun j4 h=>?_)
     ·rcases iteE h with ⟨k13,h⟩|⟨k13,h⟩
      ·obtain ⟨v6,k14,h⟩:=z07 h
       obtain ⟨v7,k15,h⟩:=z07 h
       rcases iteE h with ⟨k16,h⟩|⟨k16,h⟩
       ·obtain ⟨v8,k17,h⟩:=z07 h
        obtain ⟨v9,k18,h⟩:=z07 h
        obtain rfl:=retE h
        exact fin (ok X) 1 (.i (a0.Kids.length:Int)::bT 3 (.e (z0f v6)::.b true::.b true::.c (z76 v7)::bT 4 [.e (z0f v8),.b true,.b true,.c (z76 v9),.b true])) (pA (lm z1l a0.Kids) (pR 3 k13 (pA (ixr z26 k14) (pA k13 (pA k13 (pA (ih_r02_expr _ _ k15) (pA k13 (pR 3 k16 (pA (ixr z26 k17) (pA k16 (pA k16 (pA (ih_r02_expr _ _ k18) (pA k16 pT))))))))))))) (by kernel_rfl)
       ·obtain rfl:=retE h
        exact fin (ok X) 1 (.i (a0.Kids.length:Int)::bT 3 (.e (z0f v6)::.b true::.b true::.c (z76 v7)::.b true::bF 6 [])) (pA (lm z1l a0.Kids) (pR 3 k13 (pA (ixr z26 k14) (pA k13 (pA k13 (pA (ih_r02_expr _ _ k15) (pA k13 (pR 6 k16 pT)))))))) (by kernel_rfl)
      ·obtain rfl:=retE h
       exact fin (ok X) 1 (.i (a0.Kids.length:Int)::bF 12 []) (pA (lm z1l a0.Kids) (pR 6 k13 (pR 6 ff pT))) (by kernel_rfl)
     ·obtain rfl:=retE h
      exact fin (ok X) 1 [] pT (by kernel_rfl)
    ·obtain rfl:=retE h
     exact fin (ok X) 6 [.b false] (pA k12 pT) (by kernel_rfl)
theorem zlu:∀ n:Nat,(∀ (a0:z04) (r:Bool),z6d n a0=some r→Cv Tryz.prog (GX X) 102 [.agg (bs (z0f a0))] (z76 r))
 | 0=>(fun _ _ h=>by rw [z6d] at h;cases h)
 | n+1=>by
  have ih:=zlu n
  exact zy0 ih
theorem zfq {a0:z04} {r:Bool} (h:zi7 a0=some r):Cv Tryz.prog (GX X) 102 [.agg (bs (z0f a0))] (z76 r):=by
 obtain ⟨n,hn⟩:=unfE h
 exact (zlu n) _ _ hn
theorem ze7 {a0:z1k} {r:Bool} (h:zg9 a0=some r):Cv Tryz.prog (GX X) 103 [.agg (bs (z73 a0))] (zbi r):=by
 refine Cs.toV (?_:Cs Tryz.prog (GX X) 103 [.agg (bs (z73 a0))] [] (zbi r) (zxq r)) (by kernel_rfl)
 refine fnT (cx:=cx X) Tryz.f103 Tryz.call103 Tryz.func103 (by kernel_rfl) ?_
 unfold zg9 at h
 rcases iteE h with ⟨k1,h⟩|⟨k1,h⟩
 ·rcases iteE h with ⟨k2,h⟩|⟨k2,h⟩
  ·obtain ⟨v1,k3,h⟩:=z07 h
   rcases iteE h with ⟨k4,h⟩|⟨k4,h⟩
   ·obtain ⟨v2,k5,h⟩:=z07 h
    obtain rfl:=retE h
    exact fin (ok X) 5 (bT 7 (.c (z76 v1)::bT 4 [.c (z76 v2),.b true])) (pR 4 k1 (pR 3 k2 (pA (zfq (X:=X) k3) (pA k2 (pR 3 k4 (pA (zfq (X:=X) k5) (pA k4 pT))))))) (by kernel_rfl)
   ·obtain rfl:=retE h
    exact fin (ok X) 5 (bT 7 (.c (z76 v1)::.b true::bF 4 [])) (pR 4 k1 (pR 3 k2 (pA (zfq (X:=X) k3) (pA k2 (pR 4 k4 pT))))) (by kernel_rfl)
  ·obtain rfl:=retE h
   exact fin (ok X) 5 (bT 4 (bF 8 [])) (pR 4 k1 (pR 4 k2 (pR 4 ff pT))) (by kernel_rfl)
 ·obtain rfl:=retE h
  exact fin (ok X) 5 (bF 12 []) (pR 4 k1 (pR 8 ff pT)) (by kernel_rfl)
theorem ztw {n:Nat} (ih_r02_stmts:∀ (a0:(List z03)) (r:Bool),z8a n a0=some r→Cv Tryz.prog (GX X) 77 [xL (List.map z09 a0)] (z7c r)) (a0:(List z03)) (r:Bool) (h:z8a (n+1) a0=some r):Cv Tryz.prog (GX X) 77 [xL (List.map z09 a0)] (z7c r):=by
 refine Cs.toV (?_:Cs Tryz.prog (GX X) 77 [xL (List.map z09 a0)] [] (z7c r) (zn3 r)) (by kernel_rfl)
 refine fnT (cx:=cx X) Tryz.f77 Tryz.call77 Tryz.func77 (by kernel_rfl) ?_
 rw [z8a] at h
 refine adv (ok X) 5 [] pT (by kernel_rfl) ?_
 refine lp (ok X) (zbj (z8a n) a0) (fun (x1:Int)=>⟨127,0,[(0,[xL (List.map z09 a0)]),(3,[xI x1])],[]⟩) (fun (j1:Unit)=>⟨127,0,[],[]⟩) zjd 0 (fun _=>⟨_,_,_,_,rfl⟩) h (by kernel_rfl) (fun x1 o h=>?_) (fun r' h=>?_) (fun j1 h=>?_)
 ·unfold zbj at h
  refine adv (ok X) 3 [.i (a0.length:Int)] (pA (lm z09 a0) pT) (by kernel_rfl) ?_
  rcases iteE h with ⟨k1,h⟩|⟨k1,h⟩
  ·refine adv (ok X) 3 [.b true] (pA k1 pT) (by kernel_rfl) ?_
   refine jr (ok X) 1 (fun (j2:Unit)=>⟨127,0,[(0,[xL (List.map z09 a0)]),(3,[xI x1])],[]⟩) zjd (fun _=>⟨_,_,_,_,rfl⟩) h (fun o h=>?_) (fun r' h=>?_) (fun j2 h=>?_)
   ·obtain ⟨v1,k2,h⟩:=z07 h
    refine adv (ok X) 11 [.e (z56 v1)] (pA (ixr z7l k2) pT) (by kernel_rfl) ?_
    rcases iteE h with ⟨k3,h⟩|⟨k3,h⟩
    ·refine adv (ok X) 1 [.b true] (pA k3 pT) (by kernel_rfl) ?_
     obtain ⟨v2,k4,h⟩:=z07 h
     rcases iteE h with ⟨k5,h⟩|⟨k5,h⟩
     ·obtain ⟨v3,k6,h⟩:=z07 h
      refine adv (ok X) 4 (.c (z1y v2)::bT 3 [.c (z76 v3),.b true]) (pA (z25 (X:=X) k4) (pR 3 k5 (pA (zfq (X:=X) k6) (pA k5 pT)))) (by kernel_rfl) ?_
      rcases iteE h with ⟨k7,h⟩|⟨k7,h⟩
      ·obtain rfl:=retE h
       exact fin (ok X) 4 [.b true] (pA k7 pT) (by kernel_rfl)
      ·obtain rfl:=retE h
       exact fin (ok X) 3 [.b false] (pA k7 pT) (by kernel_rfl)
     ·obtain rfl:=retE h
      exact fin (ok X) 8 (.c (z1y v2)::bF 4 [.b true]) (pA (z25 (X:=X) k4) (pR 4 k5 (pA (notF ff) pT))) (by kernel_rfl)
    ·refine adv (ok X) 3 [.b false] (pA k3 pT) (by kernel_rfl) ?_
     rcases iteE h with ⟨k8,h⟩|⟨k8,h⟩
     ·refine adv (ok X) 1 [.b true] (pA k8 pT) (by kernel_rfl) ?_
      obtain ⟨v4,k9,h⟩:=z07 h
      rcases iteE h with ⟨k10,h⟩|⟨k10,h⟩
      ·obtain ⟨v5,k11,h⟩:=z07 h
       rcases iteE h with ⟨k12,h⟩|⟨k12,h⟩
       ·obtain ⟨v6,k13,h⟩:=z07 h
        refine adv (ok X) 4 (.c (zbi v4)::bT 3 (.c (z7c v5)::bT 4 [.c (z7c v6),.b true])) (pA (ze7 (X:=X) k9) (pR 3 k10 (pA (ih_r02_stmts _ _ k11) (pA k10 (pR 3 k12 (pA (ih_r02_stmts _ _ k13) (pA k12 pT))))))) (by kernel_rfl) ?_
        rcases iteE h with ⟨k14,h⟩|⟨k14,h⟩
        ·obtain rfl:=retE h
         exact fin (ok X) 4 [.b true] (pA k14 pT) (by kernel_rfl)
        ·obtain rfl:=retE h
         exact fin (ok X) 3 [.b false] (pA k14 pT) (by kernel_rfl)
       ·obtain rfl:=retE h
        exact fin (ok X) 8 (.c (zbi v4)::bT 3 (.c (z7c v5)::.b true::bF 4 [.b true])) (pA (ze7 (X:=X) k9) (pR 3 k10 (pA (ih_r02_stmts _ _ k11) (pA k10 (pR 4 k12 (pA (notF ff) pT)))))) (by kernel_rfl)
      ·obtain rfl:=retE h
       exact fin (ok X) 8 (.c (zbi v4)::bF 8 [.b true]) (pA (ze7 (X:=X) k9) (pR 4 k10 (pR 4 ff (pA (notF ff) pT)))) (by kernel_rfl)
     ·refine adv (ok X) 3 [.b false] (pA k8 pT) (by kernel_rfl) ?_
      rcases iteE h with ⟨k15,h⟩|⟨k15,h⟩
      ·refine adv (ok X) 1 [.b true] (pA k15 pT) (by kernel_rfl) ?_
       obtain ⟨v7,k16,h⟩:=z07 h
       rcases iteE h with ⟨k17,h⟩|⟨k17,h⟩
       ·obtain ⟨v8,k18,h⟩:=z07 h
        refine adv (ok X) 4 (.c (zbi v7)::bT 3 [.c (z7c v8),.b true]) (pA (ze7 (X:=X) k16) (pR 3 k17 (pA (ih_r02_stmts _ _ k18) (pA k17 pT)))) (by kernel_rfl) ?_
        rcases iteE h with ⟨k19,h⟩|⟨k19,h⟩
        ·obtain rfl:=retE h
         exact fin (ok X) 4 [.b true] (pA k19 pT) (by kernel_rfl)
        ·obtain rfl:=retE h
         exact fin (ok X) 3 [.b false] (pA k19 pT) (by kernel_rfl)
       ·obtain rfl:=retE h
        exact fin (ok X) 8 (.c (zbi v7)::bF 4 [.b true]) (pA (ze7 (X:=X) k16) (pR 4 k17 (pA (notF ff) pT))) (by kernel_rfl)
      ·refine adv (ok X) 3 [.b false] (pA k15 pT) (by kernel_rfl) ?_
       rcases iteE h with ⟨k20,h⟩|⟨k20,h⟩
       ·refine adv (ok X) 1 [.b true] (pA k20 pT) (by kernel_rfl) ?_
        obtain ⟨v9,k21,h⟩:=z07 h
        rcases iteE h with ⟨k22,h⟩|⟨k22,h⟩
        ·obtain ⟨v10,k23,h⟩:=z07 h
         rcases iteE h with ⟨k24,h⟩|⟨k24,h⟩
         ·obtain ⟨v11,k25,h⟩:=z07 h
          refine adv (ok X) 4 (.c (z1y v9)::bT 3 (.c (z1y v10)::bT 4 [.c (z76 v11),.b true])) (pA (z25 (X:=X) k21) (pR 3 k22 (pA (z25 (X:=X) k23) (pA k22 (pR 3 k24 (pA (zfq (X:=X) k25) (pA k24 pT))))))) (by kernel_rfl) ?_
          rcases iteE h with ⟨k26,h⟩|⟨k26,h⟩
          ·obtain rfl:=retE h
           exact fin (ok X) 4 [.b true] (pA k26 pT) (by kernel_rfl)
          ·obtain rfl:=retE h
           exact fin (ok X) 3 [.b false] (pA k26 pT) (by kernel_rfl)
         ·obtain rfl:=retE h
          exact fin (ok X) 8 (.c (z1y v9)::bT 3 (.c (z1y v10)::.b true::bF 4 [.b true])) (pA (z25 (X:=X) k21) (pR 3 k22 (pA (z25 (X:=X) k23) (pA k22 (pR 4 k24 (pA (notF ff) pT)))))) (by kernel_rfl)
        ·obtain rfl:=retE h
         exact fin (ok X) 8 (.c (z1y v9)::bF 8 [.b true]) (pA (z25 (X:=X) k21) (pR 4 k22 (pR 4 ff (pA (notF ff) pT)))) (by kernel_rfl)
       ·refine adv (ok X) 3 [.b false] (pA k20 pT) (by kernel_rfl) ?_
        rcases iteE h with ⟨k27,h⟩|⟨k27,h⟩
        ·refine adv (ok X) 2 [.b true] (pA k27 pT) (by kernel_rfl) ?_
         refine jn (ok X) 1 (fun (j3:Bool)=>⟨127,0,[(0,[xL (List.map z09 a0)]),(3,[xI x1]),(4,[xP 0 0]),(5,[xB j3])],[oB 50 (bs (z56 v1))]⟩) h (fun j3 h=>?_) (fun j3 h=>?_)
         ·obtain ⟨v12,k28,h⟩:=z07 h
          rcases iteE h with ⟨k29,h⟩|⟨k29,h⟩
          ·obtain rfl:=retE h
           exact fin (ok X) 1 (.c (z1y v12)::bT 3 [.i (v1.Arms.length:Int),.b true,.b true]) (pA (z25 (X:=X) k28) (pR 3 k29 (pA (lm z4o v1.Arms) (pA k29 (pA k29 pT))))) (by kernel_rfl)
          ·obtain rfl:=retE h
           exact fin (ok X) 1 (.c (z1y v12)::bF 5 []) (pA (z25 (X:=X) k28) (pR 5 k29 pT)) (by kernel_rfl)
         ·refine adv (ok X) 2 [] pT (by kernel_rfl) ?_
          refine lp (ok X) (z9s (z8a n) v1) (fun (x4:(Bool × Int))=>⟨127,0,[(0,[xL (List.map z09 a0)]),(3,[xI x1]),(4,[xP 0 0]),(5,[xB x4.1]),(6,[xI x4.2])],[oB 50 (bs (z56 v1))]⟩) (fun (j4:Bool)=>⟨127,0,[(0,[xL (List.map z09 a0)]),(3,[xI x1]),(5,[xB j4])],[]⟩) zjd (j3,0) (fun _=>⟨_,_,_,_,rfl⟩) h (by kernel_rfl) (fun x4 o h=>?_) (fun r' h=>?_) (fun j4 h=>?_)
          ·unfold z9s at h
           refine adv (ok X) 3 [.i (v1.Arms.length:Int)] (pA (lm z4o v1.Arms) pT) (by kernel_rfl) ?_
           rcases iteE h with ⟨k30,h⟩|⟨k30,h⟩
           ·refine adv (ok X) 3 [.b true] (pA k30 pT) (by kernel_rfl) ?_
            refine jn (ok X) 1 (fun (j5:Bool)=>⟨127,0,[(0,[xL (List.map z09 a0)]),(3,[xI x1]),(4,[xP 0 0]),(5,[xB j5]),(6,[xI x4.2])],[oB 50 (bs (z56 v1))]⟩) h (fun j5 h=>?_) (fun j5 h=>?_)
            ·rcases iteE h with ⟨k31,h⟩|⟨k31,h⟩
             ·obtain ⟨v13,k32,h⟩:=z07 h
              obtain ⟨v14,k33,h⟩:=z07 h
              rcases iteE h with ⟨k34,h⟩|⟨k34,h⟩
              ·obtain ⟨v15,k35,h⟩:=z07 h
               obtain ⟨v16,k36,h⟩:=z07 h
               rcases iteE h with ⟨k37,h⟩|⟨k37,h⟩
               ·obtain ⟨v17,k38,h⟩:=z07 h
                obtain ⟨v18,k39,h⟩:=z07 h
                obtain rfl:=retE h
                exact fin (ok X) 3 (bT 4 (.e (z4v v13)::bT 3 (.c (z1y v14)::bT 5 (.e (z4v v15)::bT 3 (.c (z1y v16)::bT 5 (.e (z4v v17)::bT 3 [.c (z7c v18),.b true])))))) (pR 4 k31 (pA (ixr z2w k32) (pR 3 k31 (pA (z25 (X:=X) k33) (pA k31 (pR 4 k34 (pA (ixr z2w k35) (pR 3 k34 (pA (z25 (X:=X) k36) (pA k34 (pR 4 k37 (pA (ixr z2w k38) (pR 3 k37 (pA (ih_r02_stmts _ _ k39) (pA k37 pT))))))))))))))) (by kernel_rfl)
               ·obtain rfl:=retE h
                exact fin (ok X) 3 (bT 4 (.e (z4v v13)::bT 3 (.c (z1y v14)::bT 5 (.e (z4v v15)::bT 3 (.c (z1y v16)::.b true::bF 8 []))))) (pR 4 k31 (pA (ixr z2w k32) (pR 3 k31 (pA (z25 (X:=X) k33) (pA k31 (pR 4 k34 (pA (ixr z2w k35) (pR 3 k34 (pA (z25 (X:=X) k36) (pA k34 (pR 8 k37 pT))))))))))) (by kernel_rfl)
              ·obtain rfl:=retE h
               exact fin (ok X) 3 (bT 4 (.e (z4v v13)::bT 3 (.c (z1y v14)::.b true::bF 16 []))) (pR 4 k31 (pA (ixr z2w k32) (pR 3 k31 (pA (z25 (X:=X) k33) (pA k31 (pR 8 k34 (pR 8 ff pT))))))) (by kernel_rfl)
             ·obtain rfl:=retE h
              exact fin (ok X) 3 (bF 24 []) (pR 8 k31 (pR 16 ff pT)) (by kernel_rfl)
            ·obtain rfl:=retE h
             exact fin (ok X) 1 [] pT (by kernel_rfl)
           ·obtain rfl:=retE h
            exact fin (ok X) 2 [.b false] (pA k30 pT) (by kernel_rfl)
          ·cases h
          ·rcases iteE h with ⟨k40,h⟩|⟨k40,h⟩
           ·obtain rfl:=retE h
            exact fin (ok X) 7 [.b true] (pA k40 pT) (by kernel_rfl)
           ·obtain rfl:=retE h
            exact fin (ok X) 6 [.b false] (pA k40 pT) (by kernel_rfl)
        ·refine adv (ok X) 3 [.b false] (pA k27 pT) (by kernel_rfl) ?_
         rcases iteE h with ⟨k41,h⟩|⟨k41,h⟩
         ·obtain ⟨v19,k42,h⟩:=z07 h
          refine adv (ok X) 5 [.b true,.c (zbi v19)] (pA k41 (pA (ze7 (X:=X) k42) pT)) (by kernel_rfl) ?_
          rcases iteE h with ⟨k43,h⟩|⟨k43,h⟩
          ·obtain rfl:=retE h
           exact fin (ok X) 4 [.b true] (pA k43 pT) (by kernel_rfl)
          ·obtain rfl:=retE h
           exact fin (ok X) 3 [.b false] (pA k43 pT) (by kernel_rfl)
         ·refine adv (ok X) 3 [.b false] (pA k41 pT) (by kernel_rfl) ?_
          rcases iteE h with ⟨k44,h⟩|⟨k44,h⟩
          ·obtain ⟨v20,k45,h⟩:=z07 h
           refine adv (ok X) 5 [.b true,.c (z1y v20)] (pA k44 (pA (z25 (X:=X) k45) pT)) (by kernel_rfl) ?_
           rcases iteE h with ⟨k46,h⟩|⟨k46,h⟩
           ·obtain rfl:=retE h
            exact fin (ok X) 4 [.b true] (pA k46 pT) (by kernel_rfl)
           ·obtain rfl:=retE h
            exact fin (ok X) 3 [.b false] (pA k46 pT) (by kernel_rfl)
          ·obtain rfl:=retE h
           exact fin (ok X) 9 [.b false,.b true] (pA k44 (pA (notF ff) pT)) (by kernel_rfl)
   ·obtain rfl:=retE h
    kernel_rfl
   ·obtain rfl:=retE h
    exact fin (ok X) 1 [] pT (by kernel_rfl)
  ·obtain rfl:=retE h
   exact fin (ok X) 2 [.b false] (pA k1 pT) (by kernel_rfl)
 ·obtain rfl:=retE h
  kernel_rfl
 ·obtain rfl:=retE h
  exact fin (ok X) 3 [] pT (by kernel_rfl)
theorem zkg:∀ n:Nat,(∀ (a0:(List z03)) (r:Bool),z8a n a0=some r→Cv Tryz.prog (GX X) 77 [xL (List.map z09 a0)] (z7c r))
 | 0=>(fun _ _ h=>by rw [z8a] at h;cases h)
 | n+1=>by
  have ih:=zkg n
  exact ztw ih
theorem ztx {a0:(List z03)} {r:Bool} (h:zn4 a0=some r):Cv Tryz.prog (GX X) 77 [xL (List.map z09 a0)] (z7c r):=by
 obtain ⟨n,hn⟩:=unfE h
 exact (zkg n) _ _ hn
theorem zty {a0:z0i} {r:Bool} (h:zhb a0=some r):Cv Tryz.prog (GX X) 44 [.agg (bs (z0e a0))] (zga r):=by
 refine Cs.toV (?_:Cs Tryz.prog (GX X) 44 [.agg (bs (z0e a0))] [] (zga r) (zn5 r)) (by kernel_rfl)
 refine fnT (cx:=cx X) Tryz.f44 Tryz.call44 Tryz.func44 (by kernel_rfl) ?_
 unfold zhb at h
 refine adv (ok X) 5 [] pT (by kernel_rfl) ?_
 refine lp (ok X) (zbl a0) (fun (x1:Int)=>⟨163,0,[(1,[xP 0 0]),(3,[xI x1])],[oB 34 (bs (z0e a0))]⟩) (fun (j1:Unit)=>⟨163,0,[(1,[xP 0 0])],[oB 34 (bs (z0e a0))]⟩) zcp 0 (fun _=>⟨_,_,_,_,rfl⟩) h (by kernel_rfl) (fun x1 o h=>?_) (fun r' h=>?_) (fun j1 h=>?_)
 ·unfold zbl at h
  refine adv (ok X) 3 [.i (a0.Chans.length:Int)] (pA (lm z2a a0.Chans) pT) (by kernel_rfl) ?_
  rcases iteE h with ⟨k1,h⟩|⟨k1,h⟩
  ·obtain ⟨v1,k2,h⟩:=z07 h
   refine adv (ok X) 8 [.b true,.e (z2a v1)] (pA k1 (pA (ixm z2a k2) pT)) (by kernel_rfl) ?_
   refine jn (ok X) 1 (fun (j2:Bool)=>⟨163,0,[(1,[xP 0 0]),(3,[xI x1]),(4,[xP 1 0]),(61,[xB j2])],[oB 34 (bs (z0e a0)),oB 90 (bs (z2a v1))]⟩) h (fun j2 h=>?_) (fun j2 h=>?_)
   ·obtain ⟨v2,k3,h⟩:=z07 h
    rcases iteE h with ⟨k4,h⟩|⟨k4,h⟩
    ·obtain rfl:=retE h
     exact fin (ok X) 1 (.c (z1y v2)::bT 28 []) (pA (z25 (X:=X) k3) (pR 5 k4 (pR 23 tt pT))) (by kernel_rfl)
    ·obtain ⟨v3,k5,h⟩:=z07 h
     rcases iteE h with ⟨k6,h⟩|⟨k6,h⟩
     ·obtain rfl:=retE h
      exact fin (ok X) 1 (.c (z1y v2)::bF 3 (.c (z1y v3)::.b false::.b false::bT 23 [])) (pA (z25 (X:=X) k3) (pR 3 k4 (pA (z25 (X:=X) k5) (pA k4 (pA k4 (pR 5 k6 (pR 18 tt pT))))))) (by kernel_rfl)
     ·obtain ⟨v4,k7,h⟩:=z07 h
      rcases iteE h with ⟨k8,h⟩|⟨k8,h⟩
      ·obtain rfl:=retE h
       exact fin (ok X) 1 (.c (z1y v2)::bF 3 (.c (z1y v3)::bF 5 (.c (z1y v4)::.b false::.b false::bT 18 []))) (pA (z25 (X:=X) k3) (pR 3 k4 (pA (z25 (X:=X) k5) (pA k4 (pA k4 (pR 3 k6 (pA (z25 (X:=X) k7) (pA k6 (pA k6 (pR 4 k8 (pR 14 tt pT))))))))))) (by kernel_rfl)
      ·rcases iteE h with ⟨k9,h⟩|⟨k9,h⟩
       ·obtain rfl:=retE h
        exact fin (ok X) 1 (.c (z1y v2)::bF 3 (.c (z1y v3)::bF 5 (.c (z1y v4)::bF 6 (bT 14 [])))) (pA (z25 (X:=X) k3) (pR 3 k4 (pA (z25 (X:=X) k5) (pA k4 (pA k4 (pR 3 k6 (pA (z25 (X:=X) k7) (pA k6 (pA k6 (pR 4 k8 (pR 4 k9 (pR 10 tt pT)))))))))))) (by kernel_rfl)
       ·rcases iteE h with ⟨k10,h⟩|⟨k10,h⟩
        ·obtain rfl:=retE h
         exact fin (ok X) 1 (.c (z1y v2)::bF 3 (.c (z1y v3)::bF 5 (.c (z1y v4)::bF 10 (bT 10 [])))) (pA (z25 (X:=X) k3) (pR 3 k4 (pA (z25 (X:=X) k5) (pA k4 (pA k4 (pR 3 k6 (pA (z25 (X:=X) k7) (pA k6 (pA k6 (pR 4 k8 (pR 4 k9 (pR 5 k10 (pR 5 tt pT))))))))))))) (by kernel_rfl)
        ·obtain ⟨v5,k11,h⟩:=z07 h
         rcases iteE h with ⟨k12,h⟩|⟨k12,h⟩
         ·obtain rfl:=retE h
          exact fin (ok X) 1 (.c (z1y v2)::bF 3 (.c (z1y v3)::bF 5 (.c (z1y v4)::bF 13 (.c (z6y v5)::.b false::.b false::bT 5 [])))) (pA (z25 (X:=X) k3) (pR 3 k4 (pA (z25 (X:=X) k5) (pA k4 (pA k4 (pR 3 k6 (pA (z25 (X:=X) k7) (pA k6 (pA k6 (pR 4 k8 (pR 4 k9 (pR 3 k10 (pA (z8m (X:=X) k11) (pA k10 (pA k10 (pR 5 k12 pT)))))))))))))))) (by kernel_rfl)
         ·obtain rfl:=retE h
          exact fin (ok X) 1 (.c (z1y v2)::bF 3 (.c (z1y v3)::bF 5 (.c (z1y v4)::bF 13 (.c (z6y v5)::bF 5 [.i (v1.Tags.length:Int),.b false,.b false])))) (pA (z25 (X:=X) k3) (pR 3 k4 (pA (z25 (X:=X) k5) (pA k4 (pA k4 (pR 3 k6 (pA (z25 (X:=X) k7) (pA k6 (pA k6 (pR 4 k8 (pR 4 k9 (pR 3 k10 (pA (z8m (X:=X) k11) (pA k10 (pA k10 (pR 3 k12 (pA (lm z1g v1.Tags) (pA k12 (pA k12 pT))))))))))))))))))) (by kernel_rfl)
   ·rcases iteE h with ⟨k13,h⟩|⟨k13,h⟩
    ·obtain rfl:=retE h
     exact fin (ok X) 4 [.b true] (pA k13 pT) (by kernel_rfl)
    ·refine adv (ok X) 4 [.b false] (pA k13 pT) (by kernel_rfl) ?_
     refine lp (ok X) (zbk v1) (fun (x3:Int)=>⟨163,0,[(1,[xP 0 0]),(3,[xI x1]),(4,[xP 1 0]),(5,[xI x3])],[oB 34 (bs (z0e a0)),oB 90 (bs (z2a v1))]⟩) (fun (j3:Unit)=>⟨163,0,[(1,[xP 0 0]),(3,[xI x1])],[oB 34 (bs (z0e a0))]⟩) zcp 0 (fun _=>⟨_,_,_,_,rfl⟩) h (by kernel_rfl) (fun x3 o h=>?_) (fun r' h=>?_) (fun j3 h=>?_)
     ·unfold zbk at h
      refine adv (ok X) 3 [.i (v1.Tags.length:Int)] (pA (lm z1g v1.Tags) pT) (by kernel_rfl) ?_
      rcases iteE h with ⟨k14,h⟩|⟨k14,h⟩
      ·obtain ⟨v6,k15,h⟩:=z07 h
       obtain ⟨v7,k16,h⟩:=z07 h
       refine adv (ok X) 6 [.b true,.e [.str v6],.c (z1y v7)] (pA k14 (pA (ixm z1g k15) (pA (z25 (X:=X) k16) pT))) (by kernel_rfl) ?_
       rcases iteE h with ⟨k17,h⟩|⟨k17,h⟩
       ·obtain rfl:=retE h
        exact fin (ok X) 4 [.b true] (pA k17 pT) (by kernel_rfl)
       ·obtain rfl:=retE h
        exact fin (ok X) 4 [.b false] (pA k17 pT) (by kernel_rfl)
      ·obtain rfl:=retE h
       exact fin (ok X) 2 [.b false] (pA k14 pT) (by kernel_rfl)
     ·obtain rfl:=retE h
      kernel_rfl
     ·obtain rfl:=retE h
      exact fin (ok X) 2 [] pT (by kernel_rfl)
  ·obtain rfl:=retE h
   exact fin (ok X) 2 [.b false] (pA k1 pT) (by kernel_rfl)
 ·obtain rfl:=retE h
  kernel_rfl
 ·refine adv (ok X) 3 [] pT (by kernel_rfl) ?_
  refine lp (ok X) (zbn a0) (fun (x4:Int)=>⟨163,0,[(1,[xP 0 0]),(6,[xI x4])],[oB 34 (bs (z0e a0))]⟩) (fun (j4:Unit)=>⟨163,0,[(1,[xP 0 0])],[oB 34 (bs (z0e a0))]⟩) zcp 0 (fun _=>⟨_,_,_,_,rfl⟩) h (by kernel_rfl) (fun x4 o h=>?_) (fun r' h=>?_) (fun j4 h=>?_)
  ·unfold zbn at h
   refine adv (ok X) 3 [.i (a0.Rules.length:Int)] (pA (lm z1p a0.Rules) pT) (by kernel_rfl) ?_
   rcases iteE h with ⟨k18,h⟩|⟨k18,h⟩
   ·obtain ⟨v8,k19,h⟩:=z07 h
    obtain ⟨v9,k20,h⟩:=z07 h
    refine adv (ok X) 7 [.b true,.e (z1p v8),.c (z1y v9)] (pA k18 (pA (ixm z1p k19) (pA (z25 (X:=X) k20) pT))) (by kernel_rfl) ?_
    rcases iteE h with ⟨k21,h⟩|⟨k21,h⟩
    ·obtain rfl:=retE h
     exact fin (ok X) 4 [.b true] (pA k21 pT) (by kernel_rfl)
    ·refine adv (ok X) 4 [.b false] (pA k21 pT) (by kernel_rfl) ?_
     refine lp (ok X) (zbm a0 x4) (fun (x5:Int)=>⟨163,0,[(1,[xP 0 0]),(6,[xI x4]),(7,[xI x5])],[oB 34 (bs (z0e a0))]⟩) (fun (j5:Unit)=>⟨163,0,[(1,[xP 0 0]),(6,[xI x4])],[oB 34 (bs (z0e a0))]⟩) zcp 0 (fun _=>⟨_,_,_,_,rfl⟩) h (by kernel_rfl) (fun x5 o h=>?_) (fun r' h=>?_) (fun j5 h=>?_)
     ·unfold zbm at h
      obtain ⟨v10,k22,h⟩:=z07 h
      refine adv (ok X) 3 [.e (z1p v10),.i (v10.Moves.length:Int)] (pA (ixm z1p k22) (pA (lm z4r v10.Moves) pT)) (by kernel_rfl) ?_
      rcases iteE h with ⟨k23,h⟩|⟨k23,h⟩
      ·obtain ⟨v11,k24,h⟩:=z07 h
       obtain ⟨v12,k25,h⟩:=z07 h
       refine adv (ok X) 7 [.b true,.e (z1p v11),.e (z4r v12)] (pA k23 (pA (ixm z1p k24) (pA (ixm z4r k25) pT))) (by kernel_rfl) ?_
       refine jn (ok X) 1 (fun (j6:Bool)=>⟨163,0,[(1,[xP 0 0]),(6,[xI x4]),(7,[xI x5]),(126,[xB j6])],[oB 34 (bs (z0e a0))]⟩) h (fun j6 h=>?_) (fun j6 h=>?_)
       ·obtain ⟨v13,k26,h⟩:=z07 h
        rcases iteE h with ⟨k27,h⟩|⟨k27,h⟩
        ·obtain rfl:=retE h
         exact fin (ok X) 1 (.c (z6y v13)::bT 10 []) (pA (z8m (X:=X) k26) (pR 5 k27 (pR 5 tt pT))) (by kernel_rfl)
        ·obtain ⟨v14,k28,h⟩:=z07 h
         rcases iteE h with ⟨k29,h⟩|⟨k29,h⟩
         ·obtain rfl:=retE h
          exact fin (ok X) 1 (.c (z6y v13)::bF 3 (.c (z6y v14)::.b false::.b false::bT 5 [])) (pA (z8m (X:=X) k26) (pR 3 k27 (pA (z8m (X:=X) k28) (pA k27 (pA k27 (pR 5 k29 pT)))))) (by kernel_rfl)
         ·obtain ⟨v15,k30,h⟩:=z07 h
          obtain rfl:=retE h
          exact fin (ok X) 1 (.c (z6y v13)::bF 3 (.c (z6y v14)::bF 5 [.c (z1y v15),.b false,.b false])) (pA (z8m (X:=X) k26) (pR 3 k27 (pA (z8m (X:=X) k28) (pA k27 (pA k27 (pR 3 k29 (pA (z25 (X:=X) k30) (pA k29 (pA k29 pT))))))))) (by kernel_rfl)
       ·rcases iteE h with ⟨k31,h⟩|⟨k31,h⟩
        ·obtain rfl:=retE h
         exact fin (ok X) 4 [.b true] (pA k31 pT) (by kernel_rfl)
        ·obtain rfl:=retE h
         exact fin (ok X) 4 [.b false] (pA k31 pT) (by kernel_rfl)
      ·obtain rfl:=retE h
       exact fin (ok X) 2 [.b false] (pA k23 pT) (by kernel_rfl)
     ·obtain rfl:=retE h
      kernel_rfl
     ·obtain rfl:=retE h
      exact fin (ok X) 2 [] pT (by kernel_rfl)
   ·obtain rfl:=retE h
    exact fin (ok X) 2 [.b false] (pA k18 pT) (by kernel_rfl)
  ·obtain rfl:=retE h
   kernel_rfl
  ·refine adv (ok X) 3 [] pT (by kernel_rfl) ?_
   refine lp (ok X) (zbp a0) (fun (x7:Int)=>⟨163,0,[(1,[xP 0 0]),(9,[xI x7])],[oB 34 (bs (z0e a0))]⟩) (fun (j7:Unit)=>⟨163,0,[],[]⟩) zcp 0 (fun _=>⟨_,_,_,_,rfl⟩) h (by kernel_rfl) (fun x7 o h=>?_) (fun r' h=>?_) (fun j7 h=>?_)
   ·unfold zbp at h
    refine adv (ok X) 3 [.i (a0.Procs.length:Int)] (pA (lm z2e a0.Procs) pT) (by kernel_rfl) ?_
    rcases iteE h with ⟨k32,h⟩|⟨k32,h⟩
    ·obtain ⟨v16,k33,h⟩:=z07 h
     refine adv (ok X) 8 [.b true,.e (z2e v16)] (pA k32 (pA (ixm z2e k33) pT)) (by kernel_rfl) ?_
     refine jn (ok X) 1 (fun (j8:Bool)=>⟨163,0,[(1,[xP 0 0]),(9,[xI x7]),(10,[xP 1 0]),(148,[xB j8])],[oB 34 (bs (z0e a0)),oB 53 (bs (z2e v16))]⟩) h (fun j8 h=>?_) (fun j8 h=>?_)
     ·obtain ⟨v17,k34,h⟩:=z07 h
      rcases iteE h with ⟨k35,h⟩|⟨k35,h⟩
      ·obtain rfl:=retE h
       exact fin (ok X) 1 (.c (z1y v17)::bT 5 []) (pA (z25 (X:=X) k34) (pR 5 k35 pT)) (by kernel_rfl)
      ·obtain ⟨v18,k36,h⟩:=z07 h
       obtain rfl:=retE h
       exact fin (ok X) 1 (.c (z1y v17)::bF 3 [.c (z7c v18),.b false,.b false]) (pA (z25 (X:=X) k34) (pR 3 k35 (pA (ztx (X:=X) k36) (pA k35 (pA k35 pT))))) (by kernel_rfl)
     ·rcases iteE h with ⟨k37,h⟩|⟨k37,h⟩
      ·obtain rfl:=retE h
       exact fin (ok X) 4 [.b true] (pA k37 pT) (by kernel_rfl)
      ·refine adv (ok X) 4 [.b false] (pA k37 pT) (by kernel_rfl) ?_
       refine lp (ok X) (zbo v16) (fun (x9:Int)=>⟨163,0,[(1,[xP 0 0]),(9,[xI x7]),(10,[xP 1 0]),(11,[xI x9])],[oB 34 (bs (z0e a0)),oB 53 (bs (z2e v16))]⟩) (fun (j9:Unit)=>⟨163,0,[(1,[xP 0 0]),(9,[xI x7])],[oB 34 (bs (z0e a0))]⟩) zcp 0 (fun _=>⟨_,_,_,_,rfl⟩) h (by kernel_rfl) (fun x9 o h=>?_) (fun r' h=>?_) (fun j9 h=>?_)
       ·unfold zbo at h
        refine adv (ok X) 3 [.i (v16.Vars.length:Int)] (pA (lm z1g v16.Vars) pT) (by kernel_rfl) ?_
        rcases iteE h with ⟨k38,h⟩|⟨k38,h⟩
        ·obtain ⟨v19,k39,h⟩:=z07 h
         obtain ⟨v20,k40,h⟩:=z07 h
         refine adv (ok X) 6 [.b true,.e [.str v19],.c (z1y v20)] (pA k38 (pA (ixm z1g k39) (pA (z25 (X:=X) k40) pT))) (by kernel_rfl) ?_
         rcases iteE h with ⟨k41,h⟩|⟨k41,h⟩
         ·obtain rfl:=retE h
          exact fin (ok X) 4 [.b true] (pA k41 pT) (by kernel_rfl)
         ·obtain rfl:=retE h
          exact fin (ok X) 4 [.b false] (pA k41 pT) (by kernel_rfl)
        ·obtain rfl:=retE h
         exact fin (ok X) 2 [.b false] (pA k38 pT) (by kernel_rfl)
       ·obtain rfl:=retE h
        kernel_rfl
       ·obtain rfl:=retE h
        exact fin (ok X) 2 [] pT (by kernel_rfl)
    ·obtain rfl:=retE h
     exact fin (ok X) 2 [.b false] (pA k32 pT) (by kernel_rfl)
   ·obtain rfl:=retE h
    kernel_rfl
   ·obtain rfl:=retE h
    exact fin (ok X) 3 [] pT (by kernel_rfl)
theorem zp6 {a0:z04} {a1:z04} {r:Bool} (h:zi8 a0 a1=some r):Cv Tryz.prog (GX X) 105 [.agg (bs (z0f a0)),.agg (bs (z0f a1))] (zi9 r):=by
 refine Cs.toV (?_:Cs Tryz.prog (GX X) 105 [.agg (bs (z0f a0)),.agg (bs (z0f a1))] [] (zi9 r) (zxr r)) (by kernel_rfl)
 refine fnT (cx:=cx X) Tryz.f105 Tryz.call105 Tryz.func105 (by kernel_rfl) ?_
 unfold zi8 at h
 rcases iteE h with ⟨k1,h⟩|⟨k1,h⟩
 ·rcases iteE h with ⟨k2,h⟩|⟨k2,h⟩
  ·obtain rfl:=retE h
   exact fin (ok X) 5 (bT 10 []) (pR 4 k1 (pR 3 k2 (pA k1 (pA k2 (pA k1 pT))))) (by kernel_rfl)
  ·obtain rfl:=retE h
   exact fin (ok X) 5 (bT 4 (bF 3 [.b true,.b false,.b true])) (pR 4 k1 (pR 3 k2 (pA k1 (pA k2 (pA k1 pT))))) (by kernel_rfl)
 ·obtain rfl:=retE h
  exact fin (ok X) 5 (bF 6 []) (pR 6 k1 pT) (by kernel_rfl)
theorem zjk {a0:z04} {a1:z04} {r:Bool} (h:zeh a0 a1=some r):Cv Tryz.prog (GX X) 106 [.agg (bs (z0f a0)),.agg (bs (z0f a1))] (zei r):=by
 refine Cs.toV (?_:Cs Tryz.prog (GX X) 106 [.agg (bs (z0f a0)),.agg (bs (z0f a1))] [] (zei r) (ztn r)) (by kernel_rfl)
 refine fnT (cx:=cx X) Tryz.f106 Tryz.call106 Tryz.func106 (by kernel_rfl) ?_
 unfold zeh at h
 rcases iteE h with ⟨k1,h⟩|⟨k1,h⟩
 ·obtain ⟨v1,k2,h⟩:=z07 h
  obtain rfl:=retE h
  exact fin (ok X) 9 [.b true,.c (zeg v1)] (pA k1 (pA (zhk (X:=X) k2) pT)) (by kernel_rfl)
 ·refine adv (ok X) 8 [.b false] (pA k1 pT) (by kernel_rfl) ?_
  rcases iteE h with ⟨k3,h⟩|⟨k3,h⟩
  ·obtain rfl:=retE h
   exact fin (ok X) 2 (bT 4 []) (pR 4 k3 pT) (by kernel_rfl)
  ·obtain rfl:=retE h
   exact fin (ok X) 2 (bF 4 []) (pR 4 k3 pT) (by kernel_rfl)
theorem zy1 {n:Nat} (ih_r02_deep:∀ (a0:z04) (r:Int),z8g n a0=some r→Cv Tryz.prog (GX X) 78 [.agg (bs (z0f a0))] (z64 r)) (a0:z04) (r:Int) (h:z8g (n+1) a0=some r):Cv Tryz.prog (GX X) 78 [.agg (bs (z0f a0))] (z64 r):=by
 refine Cs.toV (?_:Cs Tryz.prog (GX X) 78 [.agg (bs (z0f a0))] [] (z64 r) (zxs r)) (by kernel_rfl)
 refine fnT (cx:=cx X) Tryz.f78 Tryz.call78 Tryz.func78 (by kernel_rfl) ?_
 rw [z8g] at h
 refine adv (ok X) 5 [] pT (by kernel_rfl) ?_
 refine jn (ok X) 1 (fun (j1:Bool)=>⟨66,0,[(1,[xP 0 0]),(5,[xB j1])],[oB 43 (bs (z0f a0))]⟩) h (fun j1 h=>?_) (fun j1 h=>?_)
 ·rcases iteE h with ⟨k1,h⟩|⟨k1,h⟩
  ·obtain ⟨v1,k2,h⟩:=z07 h
   obtain ⟨v2,k3,h⟩:=z07 h
   obtain rfl:=retE h
   exact fin (ok X) 1 (bT 3 (.e (z0f v1)::bT 3 [.c (zeg v2),.b true])) (pR 3 k1 (pA (ixr z26 k2) (pR 3 k1 (pA (zhk (X:=X) k3) (pA k1 pT))))) (by kernel_rfl)
  ·obtain rfl:=retE h
   exact fin (ok X) 1 (bF 7 []) (pR 7 k1 pT) (by kernel_rfl)
 ·rcases iteE h with ⟨k4,h⟩|⟨k4,h⟩
  ·obtain ⟨v3,k5,h⟩:=z07 h
   obtain ⟨v4,k6,h⟩:=z07 h
   obtain rfl:=retE h
   exact fin (ok X) 4 [.b true,.e (z0f v3),.c (z64 v4)] (pA k4 (pA (ixr z26 k5) (pA (ih_r02_deep _ _ k6) pT))) (by kernel_rfl)
  ·refine adv (ok X) 3 [.b false] (pA k4 pT) (by kernel_rfl) ?_
   rcases iteE h with ⟨k7,h⟩|⟨k7,h⟩
   ·obtain ⟨v5,k8,h⟩:=z07 h
    obtain ⟨v6,k9,h⟩:=z07 h
    obtain rfl:=retE h
    exact fin (ok X) 4 [.b true,.e (z0f v5),.c (z64 v6)] (pA k7 (pA (ixr z26 k8) (pA (ih_r02_deep _ _ k9) pT))) (by kernel_rfl)
   ·obtain ⟨v7,k10,h⟩:=z07 h
    refine adv (ok X) 3 [.b false,.c (zeg v7)] (pA k7 (pA (zhk (X:=X) k10) pT)) (by kernel_rfl) ?_
    rcases iteE h with ⟨k11,h⟩|⟨k11,h⟩
    ·obtain ⟨v8,k12,h⟩:=z07 h
     obtain ⟨v9,k13,h⟩:=z07 h
     obtain ⟨v10,k14,h⟩:=z07 h
     obtain ⟨v11,k15,h⟩:=z07 h
     obtain ⟨v12,k16,h⟩:=z07 h
     refine adv (ok X) 6 [.b true,.o [0,1,2,3,4,5,6,7,8,9,10,11],.e (z0f v8),.c (z64 v9),.e (z0f v10),.c (z64 v11),.o [0,1,2,3,4,5],.e (z0f v8),.c (zi9 v12)] (pA k11 (pA (ixr z26 k12) (pA (ih_r02_deep _ _ k13) (pA (ixr z26 k14) (pA (ih_r02_deep _ _ k15) (pA (ixr z26 k12) (pA (zp6 (X:=X) k16) pT))))))) (by kernel_rfl) ?_
     rcases iteE h with ⟨k17,h⟩|⟨k17,h⟩
     ·obtain ⟨v13,k18,h⟩:=z07 h
      refine adv (ok X) 5 [.b true,.o [0,1,2,3,4,5],.e (z0f v10),.c (zei v13)] (pA k17 (pA (ixr z26 k14) (pA (zjk (X:=X) k18) pT))) (by kernel_rfl) ?_
      rcases iteE h with ⟨k19,h⟩|⟨k19,h⟩
      ·obtain rfl:=retE h
       exact fin (ok X) 5 [.b true] (pA k19 pT) (by kernel_rfl)
      ·obtain rfl:=retE h
       exact fin (ok X) 5 [.b false] (pA k19 pT) (by kernel_rfl)
     ·obtain ⟨v14,k20,h⟩:=z07 h
      refine adv (ok X) 5 [.b false,.o [0,1,2,3,4,5],.e (z0f v10),.c (zei v14)] (pA k17 (pA (ixr z26 k14) (pA (zjk (X:=X) k20) pT))) (by kernel_rfl) ?_
      rcases iteE h with ⟨k21,h⟩|⟨k21,h⟩
      ·obtain rfl:=retE h
       exact fin (ok X) 5 [.b true] (pA k21 pT) (by kernel_rfl)
      ·obtain rfl:=retE h
       exact fin (ok X) 5 [.b false] (pA k21 pT) (by kernel_rfl)
    ·obtain rfl:=retE h
     exact fin (ok X) 6 [.b false] (pA k11 pT) (by kernel_rfl)
theorem zlv:∀ n:Nat,(∀ (a0:z04) (r:Int),z8g n a0=some r→Cv Tryz.prog (GX X) 78 [.agg (bs (z0f a0))] (z64 r))
 | 0=>(fun _ _ h=>by rw [z8g] at h;cases h)
 | n+1=>by
  have ih:=zlv n
  exact zy1 ih
theorem zc6 {a0:z04} {r:Int} (h:zd2 a0=some r):Cv Tryz.prog (GX X) 78 [.agg (bs (z0f a0))] (z64 r):=by
 obtain ⟨n,hn⟩:=unfE h
 exact (zlv n) _ _ hn
theorem zs5 {n:Nat} (ih_r02_blocks:∀ (a0:(List z03)) (r:(Int × Int)),z32 n a0=some r→Cv Tryz.prog (GX X) 45 [xL (List.map z09 a0)] (z7m r)) (a0:(List z03)) (r:(Int × Int)) (h:z32 (n+1) a0=some r):Cv Tryz.prog (GX X) 45 [xL (List.map z09 a0)] (z7m r):=by
 refine Cs.toV (?_:Cs Tryz.prog (GX X) 45 [xL (List.map z09 a0)] [] (z7m r) (zls r)) (by kernel_rfl)
 refine fnT (cx:=cx X) Tryz.f45 Tryz.call45 Tryz.func45 (by kernel_rfl) ?_
 rw [z32] at h
 refine adv (ok X) 7 [] pT (by kernel_rfl) ?_
 refine lp (ok X) (z93 (z32 n) a0) (fun (x1:(Int × Int × Int))=>⟨128,0,[(0,[xL (List.map z09 a0)]),(4,[xI x1.1]),(5,[xI x1.2.1]),(6,[xI x1.2.2])],[]⟩) (fun (j1:(Int × Int))=>⟨128,0,[(4,[xI j1.1]),(5,[xI j1.2])],[]⟩) z8h (0,0,0) (fun _=>⟨_,_,_,_,rfl⟩) h (by kernel_rfl) (fun x1 o h=>?_) (fun r' h=>?_) (fun j1 h=>?_)
 ·unfold z93 at h
  refine adv (ok X) 3 [.i (a0.length:Int)] (pA (lm z09 a0) pT) (by kernel_rfl) ?_
  rcases iteE h with ⟨k1,h⟩|⟨k1,h⟩
  ·refine adv (ok X) 3 [.b true] (pA k1 pT) (by kernel_rfl) ?_
   refine jn (ok X) 1 (fun (j2:(Int × Int))=>⟨128,0,[(0,[xL (List.map z09 a0)]),(4,[xI j2.1]),(5,[xI j2.2]),(6,[xI x1.2.2])],[]⟩) h (fun j2 h=>?_) (fun j2 h=>?_)
   ·obtain ⟨v1,k2,h⟩:=z07 h
    refine adv (ok X) 12 [.e (z56 v1)] (pA (ixr z7l k2) pT) (by kernel_rfl) ?_
    rcases iteE h with ⟨k3,h⟩|⟨k3,h⟩
    ·obtain ⟨v2,k4,h⟩:=z07 h
     refine adv (ok X) 7 [.b true,.b true,.c (z64 v2)] (pA k3 (pA k3 (pA (zc6 (X:=X) k4) pT))) (by kernel_rfl) ?_
     refine lp (ok X) (zdx (z32 n)) (fun (x3:Unit)=>⟨128,0,[(0,[xL (List.map z09 a0)]),(4,[xI x1.1]),(5,[xI (max x1.2.1 v2)]),(6,[xI x1.2.2]),(8,[.c (.emp)]),(10,[xI 0])],[]⟩) (fun (j3:Unit)=>⟨128,0,[(0,[xL (List.map z09 a0)]),(4,[xI x1.1]),(5,[xI (max x1.2.1 v2)]),(6,[xI x1.2.2])],[]⟩) z8h () (fun _=>⟨_,_,_,_,rfl⟩) h (by kernel_rfl) (fun x3 o h=>?_) (fun r' h=>?_) (fun j3 h=>?_)
     ·unfold zdx at h
      rcases iteE h with ⟨k5,h⟩|⟨k5,h⟩
      ·cases h
      ·obtain rfl:=retE h
       exact fin (ok X) 5 [.b false] (pA k5 pT) (by kernel_rfl)
     ·cases h
     ·obtain rfl:=retE h
      exact fin (ok X) 1 [] pT (by kernel_rfl)
    ·refine adv (ok X) 2 [.b false] (pA k3 pT) (by kernel_rfl) ?_
     rcases iteE h with ⟨k6,h⟩|⟨k6,h⟩
     ·obtain ⟨v3,k7,h⟩:=z07 h
      refine adv (ok X) 5 [.b true,.c (z64 v3)] (pA k6 (pA (zc6 (X:=X) k7) pT)) (by kernel_rfl) ?_
      refine lp (ok X) (zdy (z32 n)) (fun (x4:Unit)=>⟨128,0,[(0,[xL (List.map z09 a0)]),(4,[xI x1.1]),(5,[xI (max x1.2.1 v3)]),(6,[xI x1.2.2]),(8,[.c (.emp)]),(10,[xI 0])],[]⟩) (fun (j4:Unit)=>⟨128,0,[(0,[xL (List.map z09 a0)]),(4,[xI x1.1]),(5,[xI (max x1.2.1 v3)]),(6,[xI x1.2.2])],[]⟩) z8h () (fun _=>⟨_,_,_,_,rfl⟩) h (by kernel_rfl) (fun x4 o h=>?_) (fun r' h=>?_) (fun j4 h=>?_)
      ·unfold zdy at h
       rcases iteE h with ⟨k8,h⟩|⟨k8,h⟩
       ·cases h
       ·obtain rfl:=retE h
        exact fin (ok X) 5 [.b false] (pA k8 pT) (by kernel_rfl)
      ·cases h
      ·obtain rfl:=retE h
       exact fin (ok X) 1 [] pT (by kernel_rfl)
     ·refine adv (ok X) 3 [.b false] (pA k6 pT) (by kernel_rfl) ?_
      rcases iteE h with ⟨k9,h⟩|⟨k9,h⟩
      ·obtain ⟨v4,k10,h⟩:=z07 h
       obtain ⟨v5,k11,h⟩:=z07 h
       obtain ⟨v6,k12,h⟩:=z07 h
       refine adv (ok X) 9 [.b true,.l (List.map zch v4),.o [0,1,2,3,4,5,6,7,8,9,10],.c (z64 v5),.c (z64 v6)] (pA k9 (pA (apm (L:=[]) (M:=[v1.Body,v1.Else]) zlc k10) (pA (zc6 (X:=X) k11) (pA (zc6 (X:=X) k12) pT)))) (by kernel_rfl) ?_
       refine lp (ok X) (zdz (z32 n) v4) (fun (x5:(Int × Int × Int))=>⟨128,0,[(0,[xL (List.map z09 a0)]),(4,[xI x5.1]),(5,[xI x5.2.1]),(6,[xI x1.2.2]),(8,[xR 1]),(10,[xI x5.2.2])],[none,oR true 47 1 (List.map zch v4)]⟩) (fun (j5:(Int × Int))=>⟨128,0,[(0,[xL (List.map z09 a0)]),(4,[xI j5.1]),(5,[xI j5.2]),(6,[xI x1.2.2])],[]⟩) z8h ((max x1.1 1),(max (max x1.2.1 v5) v6),0) (fun _=>⟨_,_,_,_,rfl⟩) h (by kernel_rfl) (fun x5 o h=>?_) (fun r' h=>?_) (fun j5 h=>?_)
       ·unfold zdz at h
        refine adv (ok X) 3 [.i (v4.length:Int)] (pA (lm zch v4) pT) (by kernel_rfl) ?_
        rcases iteE h with ⟨k13,h⟩|⟨k13,h⟩
        ·obtain ⟨v7,k14,h⟩:=z07 h
         obtain ⟨v8,k15,h⟩:=z07 h
         obtain rfl:=retE h
         exact fin (ok X) 9 [.b true,.e [.sl (List.map z09 v7)],.e [.sl (List.map z09 v7)],.c (z7m v8)] (pA k13 (pA (ixm zch k14) (pA (rwm zch k14) (pA (ih_r02_blocks _ _ k15) pT)))) (by kernel_rfl)
        ·obtain rfl:=retE h
         exact fin (ok X) 2 [.b false] (pA k13 pT) (by kernel_rfl)
       ·cases h
       ·obtain rfl:=retE h
        exact fin (ok X) 1 [] pT (by kernel_rfl)
      ·refine adv (ok X) 3 [.b false] (pA k9 pT) (by kernel_rfl) ?_
       rcases iteE h with ⟨k16,h⟩|⟨k16,h⟩
       ·obtain ⟨v9,k17,h⟩:=z07 h
        obtain ⟨v10,k18,h⟩:=z07 h
        obtain ⟨v11,k19,h⟩:=z07 h
        refine adv (ok X) 9 [.b true,.l (List.map zch v9),.o [0,1,2,3,4,5,6,7,8,9,10],.c (z64 v10),.c (z64 v11)] (pA k16 (pA (apm (L:=[]) (M:=[v1.Body]) zlc k17) (pA (zc6 (X:=X) k18) (pA (zc6 (X:=X) k19) pT)))) (by kernel_rfl) ?_
        refine lp (ok X) (ze0 (z32 n) v9) (fun (x6:(Int × Int × Int))=>⟨128,0,[(0,[xL (List.map z09 a0)]),(4,[xI x6.1]),(5,[xI x6.2.1]),(6,[xI x1.2.2]),(8,[xR 1]),(10,[xI x6.2.2])],[none,oR true 47 1 (List.map zch v9)]⟩) (fun (j6:(Int × Int))=>⟨128,0,[(0,[xL (List.map z09 a0)]),(4,[xI j6.1]),(5,[xI j6.2]),(6,[xI x1.2.2])],[]⟩) z8h ((max x1.1 1),(max (max x1.2.1 v10) v11),0) (fun _=>⟨_,_,_,_,rfl⟩) h (by kernel_rfl) (fun x6 o h=>?_) (fun r' h=>?_) (fun j6 h=>?_)
        ·unfold ze0 at h
         refine adv (ok X) 3 [.i (v9.length:Int)] (pA (lm zch v9) pT) (by kernel_rfl) ?_
         rcases iteE h with ⟨k20,h⟩|⟨k20,h⟩
         ·obtain ⟨v12,k21,h⟩:=z07 h
          obtain ⟨v13,k22,h⟩:=z07 h
          obtain rfl:=retE h
          exact fin (ok X) 9 [.b true,.e [.sl (List.map z09 v12)],.e [.sl (List.map z09 v12)],.c (z7m v13)] (pA k20 (pA (ixm zch k21) (pA (rwm zch k21) (pA (ih_r02_blocks _ _ k22) pT)))) (by kernel_rfl)
         ·obtain rfl:=retE h
          exact fin (ok X) 2 [.b false] (pA k20 pT) (by kernel_rfl)
        ·cases h
        ·obtain rfl:=retE h
         exact fin (ok X) 1 [] pT (by kernel_rfl)
       ·refine adv (ok X) 3 [.b false] (pA k16 pT) (by kernel_rfl) ?_
        rcases iteE h with ⟨k23,h⟩|⟨k23,h⟩
        ·refine adv (ok X) 4 [.b true] (pA k23 pT) (by kernel_rfl) ?_
         refine lp (ok X) (z92 (z32 n) v1) (fun (x7:(Int × (List (List z03))))=>⟨128,0,[(0,[xL (List.map z09 a0)]),(4,[xI x1.1]),(5,[xI x1.2.1]),(6,[xI x1.2.2]),(7,[xP 0 0]),(8,[xR 1]),(9,[xI x7.1])],[oB 50 (bs (z56 v1)),oR true 47 1 (List.map zch x7.2)]⟩) (fun (j7:(List (List z03)))=>⟨128,0,[(0,[xL (List.map z09 a0)]),(4,[xI x1.1]),(5,[xI x1.2.1]),(6,[xI x1.2.2]),(8,[xR 1])],[none,oR true 47 1 (List.map zch j7)]⟩) z8h (0,[]) (fun _=>⟨_,_,_,_,rfl⟩) h (by kernel_rfl) (fun x7 o h=>?_) (fun r' h=>?_) (fun j7 h=>?_)
         ·unfold z92 at h
          refine adv (ok X) 3 [.i (v1.Arms.length:Int)] (pA (lm z4o v1.Arms) pT) (by kernel_rfl) ?_
          rcases iteE h with ⟨k24,h⟩|⟨k24,h⟩
          ·obtain ⟨v14,k25,h⟩:=z07 h
           obtain ⟨v15,k26,h⟩:=z07 h
           obtain rfl:=retE h
           exact fin (ok X) 7 [.b true,.e (z4v v14),.l (List.map zch v15)] (pA k24 (pA (ixr z2w k25) (pA (apm (L:=x7.2) (M:=[v14.Body]) zlc k26) pT))) (by kernel_rfl)
          ·obtain rfl:=retE h
           exact fin (ok X) 2 [.b false] (pA k24 pT) (by kernel_rfl)
         ·cases h
         ·refine adv (ok X) 4 [] pT (by kernel_rfl) ?_
          refine lp (ok X) (ze1 (z32 n) j7) (fun (x8:(Int × Int × Int))=>⟨128,0,[(0,[xL (List.map z09 a0)]),(4,[xI x8.1]),(5,[xI x8.2.1]),(6,[xI x1.2.2]),(8,[xR 1]),(10,[xI x8.2.2])],[none,oR true 47 1 (List.map zch j7)]⟩) (fun (j8:(Int × Int))=>⟨128,0,[(0,[xL (List.map z09 a0)]),(4,[xI j8.1]),(5,[xI j8.2]),(6,[xI x1.2.2])],[]⟩) z8h ((max x1.1 1),x1.2.1,0) (fun _=>⟨_,_,_,_,rfl⟩) h (by kernel_rfl) (fun x8 o h=>?_) (fun r' h=>?_) (fun j8 h=>?_)
          ·unfold ze1 at h
           refine adv (ok X) 3 [.i (j7.length:Int)] (pA (lm zch j7) pT) (by kernel_rfl) ?_
           rcases iteE h with ⟨k27,h⟩|⟨k27,h⟩
           ·obtain ⟨v16,k28,h⟩:=z07 h
            obtain ⟨v17,k29,h⟩:=z07 h
            obtain rfl:=retE h
            exact fin (ok X) 9 [.b true,.e [.sl (List.map z09 v16)],.e [.sl (List.map z09 v16)],.c (z7m v17)] (pA k27 (pA (ixm zch k28) (pA (rwm zch k28) (pA (ih_r02_blocks _ _ k29) pT)))) (by kernel_rfl)
           ·obtain rfl:=retE h
            exact fin (ok X) 2 [.b false] (pA k27 pT) (by kernel_rfl)
          ·cases h
          ·obtain rfl:=retE h
           exact fin (ok X) 1 [] pT (by kernel_rfl)
        ·refine adv (ok X) 3 [.b false] (pA k23 pT) (by kernel_rfl) ?_
         rcases iteE h with ⟨k30,h⟩|⟨k30,h⟩
         ·obtain ⟨v18,k31,h⟩:=z07 h
          obtain ⟨v19,k32,h⟩:=z07 h
          refine adv (ok X) 5 [.b true,.o [0,1,2,3,4,5,6,7,8,9,10],.c (z64 v18),.c (z64 v19)] (pA k30 (pA (zc6 (X:=X) k31) (pA (zc6 (X:=X) k32) pT))) (by kernel_rfl) ?_
          refine lp (ok X) (ze2 (z32 n)) (fun (x9:Unit)=>⟨128,0,[(0,[xL (List.map z09 a0)]),(4,[xI x1.1]),(5,[xI (max (max x1.2.1 v18) v19)]),(6,[xI x1.2.2]),(8,[.c (.emp)]),(10,[xI 0])],[]⟩) (fun (j9:Unit)=>⟨128,0,[(0,[xL (List.map z09 a0)]),(4,[xI x1.1]),(5,[xI (max (max x1.2.1 v18) v19)]),(6,[xI x1.2.2])],[]⟩) z8h () (fun _=>⟨_,_,_,_,rfl⟩) h (by kernel_rfl) (fun x9 o h=>?_) (fun r' h=>?_) (fun j9 h=>?_)
          ·unfold ze2 at h
           rcases iteE h with ⟨k33,h⟩|⟨k33,h⟩
           ·cases h
           ·obtain rfl:=retE h
            exact fin (ok X) 5 [.b false] (pA k33 pT) (by kernel_rfl)
          ·cases h
          ·obtain rfl:=retE h
           exact fin (ok X) 1 [] pT (by kernel_rfl)
         ·refine adv (ok X) 5 [.b false] (pA k30 pT) (by kernel_rfl) ?_
          refine lp (ok X) (zd3 (z32 n)) (fun (x10:Unit)=>⟨128,0,[(0,[xL (List.map z09 a0)]),(4,[xI x1.1]),(5,[xI x1.2.1]),(6,[xI x1.2.2]),(8,[.c (.emp)]),(10,[xI 0])],[]⟩) (fun (j10:Unit)=>⟨128,0,[(0,[xL (List.map z09 a0)]),(4,[xI x1.1]),(5,[xI x1.2.1]),(6,[xI x1.2.2])],[]⟩) z8h () (fun _=>⟨_,_,_,_,rfl⟩) h (by kernel_rfl) (fun x10 o h=>?_) (fun r' h=>?_) (fun j10 h=>?_)
          ·unfold zd3 at h
           rcases iteE h with ⟨k34,h⟩|⟨k34,h⟩
           ·cases h
           ·obtain rfl:=retE h
            exact fin (ok X) 5 [.b false] (pA k34 pT) (by kernel_rfl)
          ·cases h
          ·obtain rfl:=retE h
           exact fin (ok X) 1 [] pT (by kernel_rfl)
   ·obtain rfl:=retE h
    exact fin (ok X) 1 [] pT (by kernel_rfl)
  ·obtain rfl:=retE h
   exact fin (ok X) 2 [.b false] (pA k1 pT) (by kernel_rfl)
 ·cases h
 ·obtain rfl:=retE h
  exact fin (ok X) 3 [] pT (by kernel_rfl)
theorem ziy:∀ n:Nat,(∀ (a0:(List z03)) (r:(Int × Int)),z32 n a0=some r→Cv Tryz.prog (GX X) 45 [xL (List.map z09 a0)] (z7m r))
 | 0=>(fun _ _ h=>by rw [z32] at h;cases h)
 | n+1=>by
  have ih:=ziy n
  exact zs5 ih
theorem zs6 {a0:(List z03)} {r:(Int × Int)} (h:zl6 a0=some r):Cv Tryz.prog (GX X) 45 [xL (List.map z09 a0)] (z7m r):=by
 obtain ⟨n,hn⟩:=unfE h
 exact (ziy n) _ _ hn
theorem znh {n:Nat} (ih_r02_exprWords:∀ (a0:z04) (r:(List ByteArray)),z4c n a0=some r→Cs Tryz.prog (GX X) 79 [.agg (bs (z0f a0))] [] (z4w r) (z4x r)) (ih_r02_in:∀ (a0:z04) (a1:Bool) (r:(List ByteArray)),zcq n a0 a1=some r→Cs Tryz.prog (GX X) 107 [.agg (bs (z0f a0)),xB a1] [] (zgb r) (zgc r)) (a0:z04) (r:(List ByteArray)) (h:z4c (n+1) a0=some r):Cs Tryz.prog (GX X) 79 [.agg (bs (z0f a0))] [] (z4w r) (z4x r):=by
 refine fnT (cx:=cx X) Tryz.f79 Tryz.call79 Tryz.func79 (by kernel_rfl) ?_
 rw [z4c] at h
 rcases iteE h with ⟨k1,h⟩|⟨k1,h⟩
 ·refine adv (ok X) 14 [.b true] (pA k1 pT) (by kernel_rfl) ?_
  refine lp (ok X) (z43 (z4c n) (zcq n)) (fun (x1:(ByteArray × Int))=>⟨83,0,[(3,[xS x1.1]),(4,[xI x1.2])],[]⟩) (fun (j1:ByteArray)=>⟨83,0,[(3,[xS j1])],[]⟩) zn6 ((ByteArray.mk #[]),a0.Num) (fun _=>⟨_,_,_,_,rfl⟩) h (by kernel_rfl) (fun x1 o h=>?_) (fun r' h=>?_) (fun j1 h=>?_)
  ·unfold z43 at h
   refine adv (ok X) 2 [] pT (by kernel_rfl) ?_
   refine jn (ok X) 1 (fun (j2:Bool)=>⟨83,0,[(3,[xS x1.1]),(4,[xI x1.2]),(17,[xB j2])],[]⟩) h (fun j2 h=>?_) (fun j2 h=>?_)
   ·rcases iteE h with ⟨k2,h⟩|⟨k2,h⟩
    ·obtain rfl:=retE h
     exact fin (ok X) 1 (bT 3 []) (pR 3 k2 pT) (by kernel_rfl)
    ·obtain rfl:=retE h
     exact fin (ok X) 1 (bF 3 []) (pR 3 k2 pT) (by kernel_rfl)
   ·rcases iteE h with ⟨k3,h⟩|⟨k3,h⟩
    ·obtain ⟨v1,k4,h⟩:=z07 h
     obtain ⟨v2,k5,h⟩:=z07 h
     obtain ⟨v3,k6,h⟩:=z07 h
     obtain rfl:=retE h
     exact fin (ok X) 7 [.b true,.i v1,.x [xS (strOfNums [(IntKind.u8.wrap (IntKind.i64.wrap (48+v1)))])],.x [xS v2],.i v3] (pA k3 (pA k4 (pA (byS [(IntKind.u8.wrap (IntKind.i64.wrap (48+v1)))]) (pA k5 (pA k6 pT))))) (by kernel_rfl)
    ·obtain rfl:=retE h
     exact fin (ok X) 2 [.b false] (pA k3 pT) (by kernel_rfl)
  ·cases h
  ·obtain rfl:=retE h
   exact fin (ok X) 3 [.own] pT (by kernel_rfl)
 ·refine adv (ok X) 11 [.b false] (pA k1 pT) (by kernel_rfl) ?_
  rcases iteE h with ⟨k7,h⟩|⟨k7,h⟩
  ·obtain rfl:=retE h
   exact fin (ok X) 4 [.b true,.own] (pA k7 pT) (by kernel_rfl)
  ·refine adv (ok X) 3 [.b false] (pA k7 pT) (by kernel_rfl) ?_
   rcases iteE h with ⟨k8,h⟩|⟨k8,h⟩
   ·obtain ⟨v4,k9,h⟩:=z07 h
    obtain ⟨v5,k10,h⟩:=z07 h
    obtain ⟨v6,k11,h⟩:=z07 h
    obtain ⟨v7,k12,h⟩:=z07 h
    obtain rfl:=retE h
    exact fin (ok X) 4 [.b true,.o [0,1,2,3,4,5,6,7,8,9,10,11,12,13],.own,.e (z0f v4),.e (z0f v4),.c (zeg v5),.sb (zgb v6) (zgc v6),.l (List.map z1g v7)] (pA k8 (pA (ixr z26 k9) (pA (ixr z26 k9) (pA (zhk (X:=X) k10) (pA (ih_r02_in _ _ _ k11) (pA (apm (L:=[(ByteArray.mk #[45])]) (M:=v6) z1t k12) pT)))))) (by kernel_rfl)
   ·obtain ⟨v8,k13,h⟩:=z07 h
    obtain ⟨v9,k14,h⟩:=z07 h
    obtain ⟨v10,k15,h⟩:=z07 h
    obtain ⟨v11,k16,h⟩:=z07 h
    obtain ⟨v12,k17,h⟩:=z07 h
    obtain ⟨v13,k18,h⟩:=z07 h
    obtain ⟨v14,k19,h⟩:=z07 h
    obtain ⟨v15,k20,h⟩:=z07 h
    obtain ⟨v16,k21,h⟩:=z07 h
    obtain rfl:=retE h
    exact fin (ok X) 10 [.b false,.o [0,1,2,3,4,5,6,7,8,9,10,11],.e (z0f v8),.e (z0f v8),.c (zi9 v9),.sb (zgb v10) (zgc v10),.e [.str v11],.l (List.map z1g v12),.o [0,1,2,3,4,5,6,7,8,9,10,11,12,13],.e (z0f v13),.e (z0f v13),.c (zei v14),.sb (zgb v15) (zgc v15),.l (List.map z1g v16)] (pA k8 (pA (ixr z26 k13) (pA (ixr z26 k13) (pA (zp6 (X:=X) k14) (pA (ih_r02_in _ _ _ k15) (pA (ixm z1g k16) (pA (apm (L:=v10) (M:=[v11]) z1t k17) (pA (ixr z26 k18) (pA (ixr z26 k18) (pA (zjk (X:=X) k19) (pA (ih_r02_in _ _ _ k20) (pA (apm (L:=v12) (M:=v15) z1t k21) pT)))))))))))) (by kernel_rfl)
theorem z034 {n:Nat} (ih_r02_exprWords:∀ (a0:z04) (r:(List ByteArray)),z4c n a0=some r→Cs Tryz.prog (GX X) 79 [.agg (bs (z0f a0))] [] (z4w r) (z4x r)) (ih_r02_in:∀ (a0:z04) (a1:Bool) (r:(List ByteArray)),zcq n a0 a1=some r→Cs Tryz.prog (GX X) 107 [.agg (bs (z0f a0)),xB a1] [] (zgb r) (zgc r)) (a0:z04) (a1:Bool) (r:(List ByteArray)) (h:zcq (n+1) a0 a1=some r):Cs Tryz.prog (GX X) 107 [.agg (bs (z0f a0)),xB a1] [] (zgb r) (zgc r):=by
 refine fnT (cx:=cx X) Tryz.f107 Tryz.call107 Tryz.func107 (by kernel_rfl) ?_
 rw [zcq] at h
 obtain ⟨v1,k1,h⟩:=z07 h
 refine adv (ok X) 7 [.s (z4w v1) (z4x v1)] (pA (ih_r02_exprWords _ _ k1) pT) (by kernel_rfl) ?_
 rcases iteE h with ⟨k2,h⟩|⟨k2,h⟩
 ·obtain ⟨v2,k3,h⟩:=z07 h
  obtain ⟨v3,k4,h⟩:=z07 h
  obtain rfl:=retE h
  exact fin (ok X) 4 [.b true,.own,.l (List.map z1g v2),.l (List.map z1g v3)] (pA k2 (pA (apm (L:=[(ByteArray.mk #[40])]) (M:=v1) z1t k3) (pA (apm (L:=v2) (M:=[(ByteArray.mk #[41])]) z1t k4) pT))) (by kernel_rfl)
 ·obtain rfl:=retE h
  exact fin (ok X) 5 [.b false] (pA k2 pT) (by kernel_rfl)
theorem zfr:∀ n:Nat,(∀ (a0:z04) (r:(List ByteArray)),z4c n a0=some r→Cs Tryz.prog (GX X) 79 [.agg (bs (z0f a0))] [] (z4w r) (z4x r))∧(∀ (a0:z04) (a1:Bool) (r:(List ByteArray)),zcq n a0 a1=some r→Cs Tryz.prog (GX X) 107 [.agg (bs (z0f a0)),xB a1] [] (zgb r) (zgc r))
 | 0=>⟨(fun _ _ h=>by rw [z4c] at h;cases h),(fun _ _ _ h=>by rw [zcq] at h;cases h)⟩
 | n+1=>by
  have ih:=zfr n
  exact ⟨znh ih.1 ih.2,z034 ih.1 ih.2⟩
theorem z9x {a0:z04} {r:(List ByteArray)} (h:z94 a0=some r):Cs Tryz.prog (GX X) 79 [.agg (bs (z0f a0))] [] (z4w r) (z4x r):=by
 obtain ⟨n,hn⟩:=unfE h
 exact (zfr n).1 _ _ hn
theorem zhl {a0:Int} {r:ByteArray} (h:zcr a0=some r):Cv Tryz.prog (GX X) 46 [xI a0] (zd7 r):=by
 refine Cs.toV (?_:Cs Tryz.prog (GX X) 46 [xI a0] [] (zd7 r) (zrx r)) (by kernel_rfl)
 refine fnT (cx:=cx X) Tryz.f46 Tryz.call46 Tryz.func46 (by kernel_rfl) ?_
 unfold zcr at h
 obtain ⟨v1,k1,h⟩:=z07 h
 obtain ⟨v2,k2,h⟩:=z07 h
 obtain rfl:=retE h
 exact fin (ok X) 5 [.s (z4w v1) (z4x v1),.e [.str v2],.e [.str v2]] (pA (z9x (X:=X) k1) (pA (ixm z1g k2) (pA (rwm z1g k2) pT))) (by kernel_rfl)
theorem zer {a0:z1k} {r:(List ByteArray)} (h:z95 a0=some r):Cv Tryz.prog (GX X) 80 [.agg (bs (z73 a0))] (z9t r):=by
 refine Cs.toV (?_:Cs Tryz.prog (GX X) 80 [.agg (bs (z73 a0))] [] (z9t r) (zn7 r)) (by kernel_rfl)
 refine fnT (cx:=cx X) Tryz.f80 Tryz.call80 Tryz.func80 (by kernel_rfl) ?_
 unfold z95 at h
 obtain ⟨v1,k1,h⟩:=z07 h
 obtain ⟨v2,k2,h⟩:=z07 h
 obtain ⟨v3,k3,h⟩:=z07 h
 obtain ⟨v4,k4,h⟩:=z07 h
 obtain ⟨v5,k5,h⟩:=z07 h
 obtain ⟨v6,k6,h⟩:=z07 h
 obtain ⟨v7,k7,h⟩:=z07 h
 obtain rfl:=retE h
 exact fin (ok X) 9 [.own,.s (z4w v1) (z4x v1),.l (List.map z1g v2),.e [.str v3],.l (List.map z1g v4),.s (z4w v5) (z4x v5),.l (List.map z1g v6),.l (List.map z1g v7)] (pA (z9x (X:=X) k1) (pA (apm (L:=[(ByteArray.mk #[40])]) (M:=v1) z1t k2) (pA (ixm z1g k3) (pA (apm (L:=v2) (M:=[v3]) z1t k4) (pA (z9x (X:=X) k5) (pA (apm (L:=v4) (M:=v5) z1t k6) (pA (apm (L:=v6) (M:=[(ByteArray.mk #[41])]) z1t k7) pT))))))) (by kernel_rfl)
theorem zni {n:Nat} (ih_r02_stmtWords:∀ (a0:(List z03)) (r:(List ByteArray)),z4d n a0=some r→Cv Tryz.prog (GX X) 47 [xL (List.map z09 a0)] (z6e r)) (ih_r02_block:∀ (a0:(List z03)) (r:(List ByteArray)),z7s n a0=some r→Cv Tryz.prog (GX X) 81 [xL (List.map z09 a0)] (z96 r)) (a0:(List z03)) (r:(List ByteArray)) (h:z4d (n+1) a0=some r):Cv Tryz.prog (GX X) 47 [xL (List.map z09 a0)] (z6e r):=by
 refine Cs.toV (?_:Cs Tryz.prog (GX X) 47 [xL (List.map z09 a0)] [] (z6e r) (zhc r)) (by kernel_rfl)
 refine fnT (cx:=cx X) Tryz.f47 Tryz.call47 Tryz.func47 (by kernel_rfl) ?_
 rw [z4d] at h
 refine adv (ok X) 7 [] pT (by kernel_rfl) ?_
 refine lp (ok X) (z8c (z4d n) (z7s n) a0) (fun (x1:(Int × (List ByteArray)))=>⟨143,0,[(0,[xL (List.map z09 a0)]),(3,[xR 0]),(4,[xI x1.1])],[oR true 9 1 (List.map z1g x1.2)]⟩) (fun (j1:(List ByteArray))=>⟨143,0,[(3,[xR 0])],[oR true 9 1 (List.map z1g j1)]⟩) zhd (0,[]) (fun _=>⟨_,_,_,_,rfl⟩) h (by kernel_rfl) (fun x1 o h=>?_) (fun r' h=>?_) (fun j1 h=>?_)
 ·unfold z8c at h
  refine adv (ok X) 3 [.i (a0.length:Int)] (pA (lm z09 a0) pT) (by kernel_rfl) ?_
  rcases iteE h with ⟨k1,h⟩|⟨k1,h⟩
  ·refine adv (ok X) 3 [.b true] (pA k1 pT) (by kernel_rfl) ?_
   refine jn (ok X) 1 (fun (j2:(List ByteArray))=>⟨143,0,[(0,[xL (List.map z09 a0)]),(3,[xR 0]),(4,[xI x1.1])],[oR true 9 1 (List.map z1g j2)]⟩) h (fun j2 h=>?_) (fun j2 h=>?_)
   ·obtain ⟨v1,k2,h⟩:=z07 h
    refine adv (ok X) 8 [.e (z56 v1)] (pA (ixr z7l k2) pT) (by kernel_rfl) ?_
    rcases iteE h with ⟨k3,h⟩|⟨k3,h⟩
    ·obtain ⟨v2,k4,h⟩:=z07 h
     obtain ⟨v3,k5,h⟩:=z07 h
     obtain ⟨v4,k6,h⟩:=z07 h
     obtain ⟨v5,k7,h⟩:=z07 h
     obtain rfl:=retE h
     exact fin (ok X) 4 [.b true,.o [0,1,2,3,5,6,9,4,7,8,10,11],.l (List.map z1g v2),.sb (z4w v3) (z4x v3),.l (List.map z1g v4),.l (List.map z1g v5)] (pA k3 (pA (apm (L:=x1.2) (M:=[v1.Name,(ByteArray.mk #[61])]) z1t k4) (pA (z9x (X:=X) k5) (pA (apm (L:=v2) (M:=v3) z1t k6) (pA (apm (L:=v4) (M:=[(ByteArray.mk #[59])]) z1t k7) pT))))) (by kernel_rfl)
    ·refine adv (ok X) 3 [.b false] (pA k3 pT) (by kernel_rfl) ?_
     rcases iteE h with ⟨k8,h⟩|⟨k8,h⟩
     ·obtain ⟨v6,k9,h⟩:=z07 h
      obtain ⟨v7,k10,h⟩:=z07 h
      obtain ⟨v8,k11,h⟩:=z07 h
      obtain ⟨v9,k12,h⟩:=z07 h
      obtain ⟨v10,k13,h⟩:=z07 h
      refine adv (ok X) 5 [.b true,.o [0,1,3,4,7,8,2,5,6,9,10,11],.l (List.map z1g v6),.c (z9t v7),.l (List.map z1g v8),.c (z96 v9),.l (List.map z1g v10),.i (v1.Else.length:Int)] (pA k8 (pA (apm (L:=x1.2) (M:=[(ByteArray.mk #[105,102])]) z1t k9) (pA (zer (X:=X) k10) (pA (apm (L:=v6) (M:=v7) z1t k11) (pA (ih_r02_block _ _ k12) (pA (apm (L:=v8) (M:=v9) z1t k13) (pA (lm z09 v1.Else) pT))))))) (by kernel_rfl) ?_
      rcases iteE h with ⟨k14,h⟩|⟨k14,h⟩
      ·obtain ⟨v11,k15,h⟩:=z07 h
       obtain ⟨v12,k16,h⟩:=z07 h
       obtain ⟨v13,k17,h⟩:=z07 h
       obtain rfl:=retE h
       exact fin (ok X) 4 [.b true,.o [0,1,3,4,2,5,6,7],.l (List.map z1g v11),.c (z96 v12),.l (List.map z1g v13)] (pA k14 (pA (apm (L:=v10) (M:=[(ByteArray.mk #[101,108,115,101])]) z1t k15) (pA (ih_r02_block _ _ k16) (pA (apm (L:=v11) (M:=v12) z1t k17) pT)))) (by kernel_rfl)
      ·obtain rfl:=retE h
       exact fin (ok X) 4 [.b false] (pA k14 pT) (by kernel_rfl)
     ·refine adv (ok X) 3 [.b false] (pA k8 pT) (by kernel_rfl) ?_
      rcases iteE h with ⟨k18,h⟩|⟨k18,h⟩
      ·obtain ⟨v14,k19,h⟩:=z07 h
       obtain ⟨v15,k20,h⟩:=z07 h
       obtain ⟨v16,k21,h⟩:=z07 h
       obtain ⟨v17,k22,h⟩:=z07 h
       obtain ⟨v18,k23,h⟩:=z07 h
       obtain rfl:=retE h
       exact fin (ok X) 4 [.b true,.o [0,1,3,4,7,8,2,5,6,9,10,11],.l (List.map z1g v14),.c (z9t v15),.l (List.map z1g v16),.c (z96 v17),.l (List.map z1g v18)] (pA k18 (pA (apm (L:=x1.2) (M:=[(ByteArray.mk #[119,104,105,108,101])]) z1t k19) (pA (zer (X:=X) k20) (pA (apm (L:=v14) (M:=v15) z1t k21) (pA (ih_r02_block _ _ k22) (pA (apm (L:=v16) (M:=v17) z1t k23) pT)))))) (by kernel_rfl)
      ·refine adv (ok X) 3 [.b false] (pA k18 pT) (by kernel_rfl) ?_
       rcases iteE h with ⟨k24,h⟩|⟨k24,h⟩
       ·obtain ⟨v19,k25,h⟩:=z07 h
        obtain ⟨v20,k26,h⟩:=z07 h
        obtain ⟨v21,k27,h⟩:=z07 h
        obtain ⟨v22,k28,h⟩:=z07 h
        obtain rfl:=retE h
        exact fin (ok X) 4 [.b true,.o [0,1,2,3,4,5,7,8,11,6,9,10,12,13],.l (List.map z1g v19),.sb (z4w v20) (z4x v20),.l (List.map z1g v21),.l (List.map z1g v22)] (pA k24 (pA (apm (L:=x1.2) (M:=[(ByteArray.mk #[115,101,110,100]),v1.Name,(ByteArray.mk #[46]),v1.Tag,(ByteArray.mk #[40])]) z1t k25) (pA (z9x (X:=X) k26) (pA (apm (L:=v19) (M:=v20) z1t k27) (pA (apm (L:=v21) (M:=[(ByteArray.mk #[41]),(ByteArray.mk #[59])]) z1t k28) pT))))) (by kernel_rfl)
       ·refine adv (ok X) 3 [.b false] (pA k24 pT) (by kernel_rfl) ?_
        rcases iteE h with ⟨k29,h⟩|⟨k29,h⟩
        ·obtain ⟨v23,k30,h⟩:=z07 h
         refine adv (ok X) 6 [.b true,.l (List.map z1g v23)] (pA k29 (pA (apm (L:=x1.2) (M:=[(ByteArray.mk #[114,101,99,118]),v1.Name,(ByteArray.mk #[123])]) z1t k30) pT)) (by kernel_rfl) ?_
         refine lp (ok X) (z8b (z4d n) (z7s n) v1) (fun (x3:(Int × (List ByteArray)))=>⟨143,0,[(0,[xL (List.map z09 a0)]),(3,[xR 0]),(4,[xI x1.1]),(5,[xP 1 0]),(6,[xI x3.1])],[oR true 9 1 (List.map z1g x3.2),oB 50 (bs (z56 v1))]⟩) (fun (j3:(List ByteArray))=>⟨143,0,[(0,[xL (List.map z09 a0)]),(3,[xR 0]),(4,[xI x1.1])],[oR true 9 1 (List.map z1g j3)]⟩) zhd (0,v23) (fun _=>⟨_,_,_,_,rfl⟩) h (by kernel_rfl) (fun x3 o h=>?_) (fun r' h=>?_) (fun j3 h=>?_)
         ·unfold z8b at h
          refine adv (ok X) 3 [.i (v1.Arms.length:Int)] (pA (lm z4o v1.Arms) pT) (by kernel_rfl) ?_
          rcases iteE h with ⟨k31,h⟩|⟨k31,h⟩
          ·obtain ⟨v24,k32,h⟩:=z07 h
           obtain ⟨v25,k33,h⟩:=z07 h
           obtain ⟨v26,k34,h⟩:=z07 h
           obtain ⟨v27,k35,h⟩:=z07 h
           obtain rfl:=retE h
           exact fin (ok X) 7 [.b true,.o [0,1,2,3,4,5,6,7,8,9,10,11,12,13,15,16,17,18,19,20,14,21,22,23],.e (z4v v24),.e (z4v v24),.e (z4v v24),.l (List.map z1g v25),.c (z96 v26),.l (List.map z1g v27)] (pA k31 (pA (ixr z2w k32) (pA (ixr z2w k32) (pA (ixr z2w k32) (pA (apm (L:=x3.2) (M:=[v24.Tag,(ByteArray.mk #[40]),v24.Var,(ByteArray.mk #[41])]) z1t k33) (pA (ih_r02_block _ _ k34) (pA (apm (L:=v25) (M:=v26) z1t k35) pT))))))) (by kernel_rfl)
          ·obtain rfl:=retE h
           exact fin (ok X) 2 [.b false] (pA k31 pT) (by kernel_rfl)
         ·cases h
         ·obtain ⟨v28,k36,h⟩:=z07 h
          obtain rfl:=retE h
          exact fin (ok X) 3 [.l (List.map z1g v28)] (pA (apm (L:=j3) (M:=[(ByteArray.mk #[125])]) z1t k36) pT) (by kernel_rfl)
        ·refine adv (ok X) 3 [.b false] (pA k29 pT) (by kernel_rfl) ?_
         rcases iteE h with ⟨k37,h⟩|⟨k37,h⟩
         ·obtain ⟨v29,k38,h⟩:=z07 h
          obtain ⟨v30,k39,h⟩:=z07 h
          obtain ⟨v31,k40,h⟩:=z07 h
          obtain ⟨v32,k41,h⟩:=z07 h
          obtain rfl:=retE h
          exact fin (ok X) 4 [.b true,.o [0,1,3,4,7,2,5,6,8,9],.l (List.map z1g v29),.c (z9t v30),.l (List.map z1g v31),.l (List.map z1g v32)] (pA k37 (pA (apm (L:=x1.2) (M:=[(ByteArray.mk #[97,115,115,101,114,116])]) z1t k38) (pA (zer (X:=X) k39) (pA (apm (L:=v29) (M:=v30) z1t k40) (pA (apm (L:=v31) (M:=[(ByteArray.mk #[59])]) z1t k41) pT))))) (by kernel_rfl)
         ·refine adv (ok X) 3 [.b false] (pA k37 pT) (by kernel_rfl) ?_
          rcases iteE h with ⟨k42,h⟩|⟨k42,h⟩
          ·obtain ⟨v33,k43,h⟩:=z07 h
           obtain rfl:=retE h
           exact fin (ok X) 4 [.b true,.l (List.map z1g v33)] (pA k42 (pA (apm (L:=x1.2) (M:=[(ByteArray.mk #[105,110,112,117,116]),v1.Name,(ByteArray.mk #[59])]) z1t k43) pT)) (by kernel_rfl)
          ·obtain rfl:=retE h
           exact fin (ok X) 4 [.b false] (pA k42 pT) (by kernel_rfl)
   ·obtain rfl:=retE h
    exact fin (ok X) 1 [] pT (by kernel_rfl)
  ·obtain rfl:=retE h
   exact fin (ok X) 2 [.b false] (pA k1 pT) (by kernel_rfl)
 ·cases h
 ·obtain rfl:=retE h
  exact fin (ok X) 3 [] pT (by kernel_rfl)
theorem ztz {n:Nat} (ih_r02_stmtWords:∀ (a0:(List z03)) (r:(List ByteArray)),z4d n a0=some r→Cv Tryz.prog (GX X) 47 [xL (List.map z09 a0)] (z6e r)) (ih_r02_block:∀ (a0:(List z03)) (r:(List ByteArray)),z7s n a0=some r→Cv Tryz.prog (GX X) 81 [xL (List.map z09 a0)] (z96 r)) (a0:(List z03)) (r:(List ByteArray)) (h:z7s (n+1) a0=some r):Cv Tryz.prog (GX X) 81 [xL (List.map z09 a0)] (z96 r):=by
 refine Cs.toV (?_:Cs Tryz.prog (GX X) 81 [xL (List.map z09 a0)] [] (z96 r) (zto r)) (by kernel_rfl)
 refine fnT (cx:=cx X) Tryz.f81 Tryz.call81 Tryz.func81 (by kernel_rfl) ?_
 rw [z7s] at h
 obtain ⟨v1,k1,h⟩:=z07 h
 obtain ⟨v2,k2,h⟩:=z07 h
 obtain ⟨v3,k3,h⟩:=z07 h
 obtain rfl:=retE h
 exact fin (ok X) 5 [.own,.c (z6e v1),.l (List.map z1g v2),.l (List.map z1g v3)] (pA (ih_r02_stmtWords _ _ k1) (pA (apm (L:=[(ByteArray.mk #[123])]) (M:=v1) z1t k2) (pA (apm (L:=v2) (M:=[(ByteArray.mk #[125])]) z1t k3) pT))) (by kernel_rfl)
theorem zfs:∀ n:Nat,(∀ (a0:(List z03)) (r:(List ByteArray)),z4d n a0=some r→Cv Tryz.prog (GX X) 47 [xL (List.map z09 a0)] (z6e r))∧(∀ (a0:(List z03)) (r:(List ByteArray)),z7s n a0=some r→Cv Tryz.prog (GX X) 81 [xL (List.map z09 a0)] (z96 r))
 | 0=>⟨(fun _ _ h=>by rw [z4d] at h;cases h),(fun _ _ h=>by rw [z7s] at h;cases h)⟩
 | n+1=>by
  have ih:=zfs n
  exact ⟨zni ih.1 ih.2,ztz ih.1 ih.2⟩
theorem znj {a0:(List z03)} {r:(List ByteArray)} (h:zgd a0=some r):Cv Tryz.prog (GX X) 47 [xL (List.map z09 a0)] (z6e r):=by
 obtain ⟨n,hn⟩:=unfE h
 exact (zfs n).1 _ _ hn
theorem zu0 {a0:z0i} {r:((List ByteArray) × Int)} (h:zej a0=some r):Cv Tryz.prog (GX X) 14 [.agg (bs (z0e a0))] (zge r):=by
 refine Cs.toV (?_:Cs Tryz.prog (GX X) 14 [.agg (bs (z0e a0))] [] (zge r) (zn8 r)) (by kernel_rfl)
 refine fnT (cx:=cx X) Tryz.f14 Tryz.call14 Tryz.func14 (by kernel_rfl) ?_
 unfold zej at h
 obtain ⟨v1,k1,h⟩:=z07 h
 refine adv (ok X) 5 [.c (zga v1)] (pA (zty (X:=X) k1) pT) (by kernel_rfl) ?_
 rcases iteE h with ⟨k2,h⟩|⟨k2,h⟩
 ·obtain rfl:=retE h
  exact fin (ok X) 4 [.b true] (pA k2 pT) (by kernel_rfl)
 ·refine adv (ok X) 5 [.b false] (pA k2 pT) (by kernel_rfl) ?_
  refine lp (ok X) (zbq a0) (fun (x1:Int)=>⟨188,0,[(1,[xP 0 0]),(4,[xI x1])],[oB 34 (bs (z0e a0))]⟩) (fun (j1:Unit)=>⟨188,0,[(1,[xP 0 0])],[oB 34 (bs (z0e a0))]⟩) zb0 0 (fun _=>⟨_,_,_,_,rfl⟩) h (by kernel_rfl) (fun x1 o h=>?_) (fun r' h=>?_) (fun j1 h=>?_)
  ·unfold zbq at h
   refine adv (ok X) 3 [.i (a0.Procs.length:Int)] (pA (lm z2e a0.Procs) pT) (by kernel_rfl) ?_
   rcases iteE h with ⟨k3,h⟩|⟨k3,h⟩
   ·obtain ⟨v2,k4,h⟩:=z07 h
    obtain ⟨v3,k5,h⟩:=z07 h
    refine adv (ok X) 7 [.b true,.e (z2e v2),.c (z7m v3)] (pA k3 (pA (ixm z2e k4) (pA (zs6 (X:=X) k5) pT))) (by kernel_rfl) ?_
    refine jn (ok X) 1 (fun (j2:Bool)=>⟨188,0,[(1,[xP 0 0]),(4,[xI x1]),(42,[xB j2])],[oB 34 (bs (z0e a0))]⟩) h (fun j2 h=>?_) (fun j2 h=>?_)
    ·rcases iteE h with ⟨k6,h⟩|⟨k6,h⟩
     ·obtain rfl:=retE h
      exact fin (ok X) 1 (bT 3 []) (pR 3 k6 pT) (by kernel_rfl)
     ·obtain rfl:=retE h
      exact fin (ok X) 1 (bF 3 []) (pR 3 k6 pT) (by kernel_rfl)
    ·rcases iteE h with ⟨k7,h⟩|⟨k7,h⟩
     ·obtain rfl:=retE h
      exact fin (ok X) 4 [.b true] (pA k7 pT) (by kernel_rfl)
     ·obtain rfl:=retE h
      exact fin (ok X) 4 [.b false] (pA k7 pT) (by kernel_rfl)
   ·obtain rfl:=retE h
    exact fin (ok X) 2 [.b false] (pA k3 pT) (by kernel_rfl)
  ·obtain rfl:=retE h
   kernel_rfl
  ·refine adv (ok X) 5 [] pT (by kernel_rfl) ?_
   refine lp (ok X) (zbs a0) (fun (x3:(Int × (List ByteArray)))=>⟨188,0,[(1,[xP 0 0]),(7,[xR 1]),(8,[xI x3.1])],[oB 34 (bs (z0e a0)),oR true 9 1 (List.map z1g x3.2)]⟩) (fun (j3:(List ByteArray))=>⟨188,0,[(1,[xP 0 0]),(7,[xR 1])],[oB 34 (bs (z0e a0)),oR true 9 1 (List.map z1g j3)]⟩) zb0 (0,[]) (fun _=>⟨_,_,_,_,rfl⟩) h (by kernel_rfl) (fun x3 o h=>?_) (fun r' h=>?_) (fun j3 h=>?_)
   ·unfold zbs at h
    refine adv (ok X) 3 [.i (a0.Chans.length:Int)] (pA (lm z2a a0.Chans) pT) (by kernel_rfl) ?_
    rcases iteE h with ⟨k8,h⟩|⟨k8,h⟩
    ·obtain ⟨v4,k9,h⟩:=z07 h
     obtain ⟨v5,k10,h⟩:=z07 h
     obtain ⟨v6,k11,h⟩:=z07 h
     obtain ⟨v7,k12,h⟩:=z07 h
     refine adv (ok X) 11 [.b true,.e (z2a v4),.o [0,1,2,3,4,5,6,7,8,9,10,11,12,13,14,15,16,17],.e [.str v5],.c (zd7 v6),.l (List.map z1g v7)] (pA k8 (pA (ixm z2a k9) (pA (ixm z1g k10) (pA (zhl (X:=X) k11) (pA (apm (L:=x3.2) (M:=[(ByteArray.mk #[99,104,97,110]),v4.Name,v5,v6,(ByteArray.mk #[102,114,111,109]),v4.From,(ByteArray.mk #[116,111]),v4.To,(ByteArray.mk #[123])]) z1t k12) pT))))) (by kernel_rfl) ?_
     refine lp (ok X) (zbr v4) (fun (x4:(Int × (List ByteArray)))=>⟨188,0,[(1,[xP 0 0]),(7,[xR 1]),(8,[xI x3.1]),(9,[xP 2 0]),(10,[xI x4.1])],[oB 34 (bs (z0e a0)),oR true 9 1 (List.map z1g x4.2),oB 90 (bs (z2a v4))]⟩) (fun (j4:(List ByteArray))=>⟨188,0,[(1,[xP 0 0]),(7,[xR 1]),(8,[xI x3.1])],[oB 34 (bs (z0e a0)),oR true 9 1 (List.map z1g j4)]⟩) zb0 (0,v7) (fun _=>⟨_,_,_,_,rfl⟩) h (by kernel_rfl) (fun x4 o h=>?_) (fun r' h=>?_) (fun j4 h=>?_)
     ·unfold zbr at h
      refine adv (ok X) 3 [.i (v4.Tags.length:Int)] (pA (lm z1g v4.Tags) pT) (by kernel_rfl) ?_
      rcases iteE h with ⟨k13,h⟩|⟨k13,h⟩
      ·refine adv (ok X) 3 [.b true] (pA k13 pT) (by kernel_rfl) ?_
       refine jn (ok X) 1 (fun (j5:(List ByteArray))=>⟨188,0,[(1,[xP 0 0]),(7,[xR 1]),(8,[xI x3.1]),(9,[xP 2 0]),(10,[xI x4.1])],[oB 34 (bs (z0e a0)),oR true 9 1 (List.map z1g j5),oB 90 (bs (z2a v4))]⟩) h (fun j5 h=>?_) (fun j5 h=>?_)
       ·rcases iteE h with ⟨k14,h⟩|⟨k14,h⟩
        ·obtain ⟨v8,k15,h⟩:=z07 h
         obtain ⟨v9,k16,h⟩:=z07 h
         obtain ⟨v10,k17,h⟩:=z07 h
         obtain rfl:=retE h
         exact fin (ok X) 8 [.b true,.l (List.map z1g v8),.e [.str v9],.l (List.map z1g v10)] (pA k14 (pA (apm (L:=x4.2) (M:=[(ByteArray.mk #[44])]) z1t k15) (pA (ixm z1g k16) (pA (apm (L:=v8) (M:=[v9]) z1t k17) pT)))) (by kernel_rfl)
        ·obtain ⟨v11,k18,h⟩:=z07 h
         obtain ⟨v12,k19,h⟩:=z07 h
         obtain rfl:=retE h
         exact fin (ok X) 8 [.b false,.e [.str v11],.l (List.map z1g v12)] (pA k14 (pA (ixm z1g k18) (pA (apm (L:=x4.2) (M:=[v11]) z1t k19) pT))) (by kernel_rfl)
       ·obtain rfl:=retE h
        exact fin (ok X) 1 [] pT (by kernel_rfl)
      ·obtain rfl:=retE h
       exact fin (ok X) 2 [.b false] (pA k13 pT) (by kernel_rfl)
     ·cases h
     ·obtain ⟨v13,k20,h⟩:=z07 h
      obtain rfl:=retE h
      exact fin (ok X) 3 [.l (List.map z1g v13)] (pA (apm (L:=j4) (M:=[(ByteArray.mk #[125]),(ByteArray.mk #[59])]) z1t k20) pT) (by kernel_rfl)
    ·obtain rfl:=retE h
     exact fin (ok X) 2 [.b false] (pA k8 pT) (by kernel_rfl)
   ·cases h
   ·refine adv (ok X) 3 [] pT (by kernel_rfl) ?_
    refine lp (ok X) (zbu a0) (fun (x6:(Int × (List ByteArray)))=>⟨188,0,[(1,[xP 0 0]),(7,[xR 1]),(11,[xI x6.1])],[oB 34 (bs (z0e a0)),oR true 9 1 (List.map z1g x6.2)]⟩) (fun (j6:(List ByteArray))=>⟨188,0,[(1,[xP 0 0]),(7,[xR 1])],[oB 34 (bs (z0e a0)),oR true 9 1 (List.map z1g j6)]⟩) zb0 (0,j3) (fun _=>⟨_,_,_,_,rfl⟩) h (by kernel_rfl) (fun x6 o h=>?_) (fun r' h=>?_) (fun j6 h=>?_)
    ·unfold zbu at h
     refine adv (ok X) 3 [.i (a0.Rules.length:Int)] (pA (lm z1p a0.Rules) pT) (by kernel_rfl) ?_
     rcases iteE h with ⟨k21,h⟩|⟨k21,h⟩
     ·obtain ⟨v14,k22,h⟩:=z07 h
      obtain ⟨v15,k23,h⟩:=z07 h
      refine adv (ok X) 9 [.b true,.e (z1p v14),.l (List.map z1g v15)] (pA k21 (pA (ixm z1p k22) (pA (apm (L:=x6.2) (M:=[(ByteArray.mk #[114,117,108,101]),v14.Chan,(ByteArray.mk #[123])]) z1t k23) pT))) (by kernel_rfl) ?_
      refine lp (ok X) (zbt a0 x6) (fun (x7:(Int × (List ByteArray)))=>⟨188,0,[(1,[xP 0 0]),(7,[xR 1]),(11,[xI x6.1]),(12,[xI x7.1])],[oB 34 (bs (z0e a0)),oR true 9 1 (List.map z1g x7.2)]⟩) (fun (j7:(List ByteArray))=>⟨188,0,[(1,[xP 0 0]),(7,[xR 1]),(11,[xI x6.1])],[oB 34 (bs (z0e a0)),oR true 9 1 (List.map z1g j7)]⟩) zb0 (0,v15) (fun _=>⟨_,_,_,_,rfl⟩) h (by kernel_rfl) (fun x7 o h=>?_) (fun r' h=>?_) (fun j7 h=>?_)
      ·unfold zbt at h
       obtain ⟨v16,k24,h⟩:=z07 h
       refine adv (ok X) 3 [.e (z1p v16),.i (v16.Moves.length:Int)] (pA (ixm z1p k24) (pA (lm z4r v16.Moves) pT)) (by kernel_rfl) ?_
       rcases iteE h with ⟨k25,h⟩|⟨k25,h⟩
       ·obtain ⟨v17,k26,h⟩:=z07 h
        obtain ⟨v18,k27,h⟩:=z07 h
        obtain ⟨v19,k28,h⟩:=z07 h
        obtain ⟨v20,k29,h⟩:=z07 h
        obtain ⟨v21,k30,h⟩:=z07 h
        obtain rfl:=retE h
        exact fin (ok X) 9 [.b true,.e (z1p v17),.e (z4r v18),.o [0,1,2,3,4,5,6,7,8,9,10,11],.c (zd7 v19),.c (zd7 v20),.l (List.map z1g v21)] (pA k25 (pA (ixm z1p k26) (pA (ixm z4r k27) (pA (zhl (X:=X) k28) (pA (zhl (X:=X) k29) (pA (apm (L:=x7.2) (M:=[v19,v18.Tag,v20,(ByteArray.mk #[59])]) z1t k30) pT)))))) (by kernel_rfl)
       ·obtain rfl:=retE h
        exact fin (ok X) 2 [.b false] (pA k25 pT) (by kernel_rfl)
      ·cases h
      ·obtain ⟨v22,k31,h⟩:=z07 h
       obtain rfl:=retE h
       exact fin (ok X) 3 [.l (List.map z1g v22)] (pA (apm (L:=j7) (M:=[(ByteArray.mk #[125])]) z1t k31) pT) (by kernel_rfl)
     ·obtain rfl:=retE h
      exact fin (ok X) 2 [.b false] (pA k21 pT) (by kernel_rfl)
    ·cases h
    ·refine adv (ok X) 3 [] pT (by kernel_rfl) ?_
     refine lp (ok X) (zbw a0) (fun (x8:(Int × (List ByteArray)))=>⟨188,0,[(1,[xP 0 0]),(7,[xR 1]),(14,[xI x8.1])],[oB 34 (bs (z0e a0)),oR true 9 1 (List.map z1g x8.2)]⟩) (fun (j8:(List ByteArray))=>⟨188,0,[(7,[xR 1])],[none,oR true 9 1 (List.map z1g j8)]⟩) zb0 (0,j6) (fun _=>⟨_,_,_,_,rfl⟩) h (by kernel_rfl) (fun x8 o h=>?_) (fun r' h=>?_) (fun j8 h=>?_)
     ·unfold zbw at h
      refine adv (ok X) 3 [.i (a0.Procs.length:Int)] (pA (lm z2e a0.Procs) pT) (by kernel_rfl) ?_
      rcases iteE h with ⟨k32,h⟩|⟨k32,h⟩
      ·obtain ⟨v23,k33,h⟩:=z07 h
       obtain ⟨v24,k34,h⟩:=z07 h
       refine adv (ok X) 11 [.b true,.e (z2e v23),.l (List.map z1g v24)] (pA k32 (pA (ixm z2e k33) (pA (apm (L:=x8.2) (M:=[(ByteArray.mk #[112,114,111,99]),v23.Name,(ByteArray.mk #[123])]) z1t k34) pT))) (by kernel_rfl) ?_
       refine lp (ok X) (zbv v23) (fun (x9:(Int × (List ByteArray)))=>⟨188,0,[(1,[xP 0 0]),(7,[xR 1]),(14,[xI x8.1]),(15,[xP 2 0]),(16,[xI x9.1])],[oB 34 (bs (z0e a0)),oR true 9 1 (List.map z1g x9.2),oB 53 (bs (z2e v23))]⟩) (fun (j9:(List ByteArray))=>⟨188,0,[(1,[xP 0 0]),(7,[xR 1]),(14,[xI x8.1]),(15,[xP 2 0])],[oB 34 (bs (z0e a0)),oR true 9 1 (List.map z1g j9),oB 53 (bs (z2e v23))]⟩) zb0 (0,v24) (fun _=>⟨_,_,_,_,rfl⟩) h (by kernel_rfl) (fun x9 o h=>?_) (fun r' h=>?_) (fun j9 h=>?_)
       ·unfold zbv at h
        refine adv (ok X) 3 [.i (v23.Vars.length:Int)] (pA (lm z1g v23.Vars) pT) (by kernel_rfl) ?_
        rcases iteE h with ⟨k35,h⟩|⟨k35,h⟩
        ·obtain ⟨v25,k36,h⟩:=z07 h
         obtain ⟨v26,k37,h⟩:=z07 h
         obtain rfl:=retE h
         exact fin (ok X) 7 [.b true,.e [.str v25],.l (List.map z1g v26)] (pA k35 (pA (ixm z1g k36) (pA (apm (L:=x9.2) (M:=[(ByteArray.mk #[118,97,114]),v25,(ByteArray.mk #[59])]) z1t k37) pT))) (by kernel_rfl)
        ·obtain rfl:=retE h
         exact fin (ok X) 2 [.b false] (pA k35 pT) (by kernel_rfl)
       ·cases h
       ·obtain ⟨v27,k38,h⟩:=z07 h
        obtain ⟨v28,k39,h⟩:=z07 h
        obtain ⟨v29,k40,h⟩:=z07 h
        obtain rfl:=retE h
        exact fin (ok X) 3 [.c (z6e v27),.l (List.map z1g v28),.l (List.map z1g v29)] (pA (znj (X:=X) k38) (pA (apm (L:=j9) (M:=v27) z1t k39) (pA (apm (L:=v28) (M:=[(ByteArray.mk #[125])]) z1t k40) pT))) (by kernel_rfl)
      ·obtain rfl:=retE h
       exact fin (ok X) 2 [.b false] (pA k32 pT) (by kernel_rfl)
     ·cases h
     ·refine adv (ok X) 3 [.i (j8.length:Int)] (pA (lm z1g j8) pT) (by kernel_rfl) ?_
      rcases iteE h with ⟨k41,h⟩|⟨k41,h⟩
      ·obtain rfl:=retE h
       exact fin (ok X) 4 [.b true] (pA k41 pT) (by kernel_rfl)
      ·obtain rfl:=retE h
       exact fin (ok X) 5 [.b false] (pA k41 pT) (by kernel_rfl)
theorem zhm {a0:Int} {r:Bool} (h:ze5 a0=some r):Cv Tryz.prog (GX X) 90 [.c (.pv (.int .u8 a0))] (zd8 r):=by
 refine Cs.toV (?_:Cs Tryz.prog (GX X) 90 [.c (.pv (.int .u8 a0))] [] (zd8 r) (zry r)) (by kernel_rfl)
 refine fnT (cx:=cx X) Tryz.f90 Tryz.call90 Tryz.func90 (by kernel_rfl) ?_
 unfold ze5 at h
 rcases iteE h with ⟨k1,h⟩|⟨k1,h⟩
 ·obtain rfl:=retE h
  exact fin (ok X) 5 (bT 3 []) (pR 3 k1 pT) (by kernel_rfl)
 ·obtain rfl:=retE h
  exact fin (ok X) 5 (bF 3 []) (pR 3 k1 pT) (by kernel_rfl)
theorem znk {a0:Int} {r:Bool} (h:zfk a0=some r):Cv Tryz.prog (GX X) 93 [.c (.pv (.int .u8 a0))] (zgf r):=by
 refine Cs.toV (?_:Cs Tryz.prog (GX X) 93 [.c (.pv (.int .u8 a0))] [] (zgf r) (ztp r)) (by kernel_rfl)
 refine fnT (cx:=cx X) Tryz.f93 Tryz.call93 Tryz.func93 (by kernel_rfl) ?_
 unfold zfk at h
 rcases iteE h with ⟨k1,h⟩|⟨k1,h⟩
 ·obtain rfl:=retE h
  exact fin (ok X) 5 (bT 3 []) (pR 3 k1 pT) (by kernel_rfl)
 ·obtain rfl:=retE h
  exact fin (ok X) 5 (bF 3 []) (pR 3 k1 pT) (by kernel_rfl)
theorem zs7 {a0:ByteArray} {r:Int} (h:zl7 a0=some r):Cv Tryz.prog (GX X) 92 [xS a0] (zhe r):=by
 refine Cs.toV (?_:Cs Tryz.prog (GX X) 92 [xS a0] [] (zhe r) (zrz r)) (by kernel_rfl)
 refine fnT (cx:=cx X) Tryz.f92 Tryz.call92 Tryz.func92 (by kernel_rfl) ?_
 unfold zl7 at h
 refine adv (ok X) 5 [] pT (by kernel_rfl) ?_
 refine lp (ok X) (zcs a0) (fun (x1:Int)=>⟨23,0,[(0,[xS a0]),(3,[xI x1])],[]⟩) (fun (j1:Int)=>⟨23,0,[(3,[xI j1])],[]⟩) z003 0 (fun _=>⟨_,_,_,_,rfl⟩) h (by kernel_rfl) (fun x1 o h=>?_) (fun r' h=>?_) (fun j1 h=>?_)
 ·unfold zcs at h
  refine adv (ok X) 2 [] pT (by kernel_rfl) ?_
  refine jn (ok X) 1 (fun (j2:Bool)=>⟨23,0,[(0,[xS a0]),(3,[xI x1]),(19,[xB j2])],[]⟩) h (fun j2 h=>?_) (fun j2 h=>?_)
  ·rcases iteE h with ⟨k1,h⟩|⟨k1,h⟩
   ·obtain ⟨v1,k2,h⟩:=z07 h
    obtain ⟨v2,k3,h⟩:=z07 h
    rcases iteE h with ⟨k4,h⟩|⟨k4,h⟩
    ·obtain rfl:=retE h
     exact fin (ok X) 1 (bT 3 (.i v1::.b true::.c (zd8 v2)::bT 8 [])) (pR 3 k1 (pA k2 (pA k1 (pA (zhm (X:=X) k3) (pA k1 (pR 4 k4 (pA k1 (pA k4 (pA k1 pT))))))))) (by kernel_rfl)
    ·obtain ⟨v3,k5,h⟩:=z07 h
     obtain ⟨v4,k6,h⟩:=z07 h
     obtain rfl:=retE h
     exact fin (ok X) 1 (bT 3 (.i v1::.b true::.c (zd8 v2)::.b true::bF 3 [.i v3,.b false,.c (zgf v4),.b true,.b false,.b true])) (pR 3 k1 (pA k2 (pA k1 (pA (zhm (X:=X) k3) (pA k1 (pR 3 k4 (pA k5 (pA k4 (pA (znk (X:=X) k6) (pA k1 (pA k4 (pA k1 pT)))))))))))) (by kernel_rfl)
   ·obtain rfl:=retE h
    exact fin (ok X) 1 (bF 7 []) (pR 7 k1 pT) (by kernel_rfl)
  ·rcases iteE h with ⟨k7,h⟩|⟨k7,h⟩
   ·obtain rfl:=retE h
    exact fin (ok X) 5 [.b true] (pA k7 pT) (by kernel_rfl)
   ·obtain rfl:=retE h
    exact fin (ok X) 2 [.b false] (pA k7 pT) (by kernel_rfl)
 ·cases h
 ·obtain rfl:=retE h
  exact fin (ok X) 3 [] pT (by kernel_rfl)
end Go.Proofs.YtokjbpmjdcbogaaGreatDoor.Abs

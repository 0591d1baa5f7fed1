/- Gw: the functions are these. -/
import Derived.Test.YtimbigpplbbjaaaGreatDoorGwF
namespace Go.Proofs.YtimbigpplbbjaaaGreatDoor.Abs
open Go Go.RowKit
set_option linter.unusedVariables false
set_option maxRecDepth 100000
set_option maxHeartbeats 4000000
variable {X:EV}
theorem z07r {a0:Int} {r:ByteArray} (h:itoa a0=some r):Cv Tryz.prog (GX X) 162 [xI a0] (z036 r):=zz6 h
theorem z01o {a0:ByteArray} {r:Int × Int} (h:znv a0=some r):Cv Tryz.prog (GX X) 128 [xS a0] (zuw r):=zt6 h
theorem zz7 {a0:ByteArray} {a1:Int} {r:Int} (h:zt5 a0 a1=some r):Cv Tryz.prog (GX X) 152 [xS a0,.c (.pv (.int .u8 a1))] (zt4 r):=zwu h
theorem zwv {n:Nat} (ih_l02_Expr:∀ (a0:z4n) (r:z06),zbc n a0=some r→Cv Tryz.prog (GX X) 77 [.agg (bs (zc5 a0))] (za0 r)) (a0:z4n) (r:z06) (h:zbc (n+1) a0=some r):Cv Tryz.prog (GX X) 77 [.agg (bs (zc5 a0))] (za0 r):=by
 refine Cs.toV (?_:Cs Tryz.prog (GX X) 77 [.agg (bs (zc5 a0))] [] (za0 r) (zp5 r)) (by kernel_rfl)
 refine fnT (cx:=cx X) Tryz.f77 Tryz.call77 Tryz.func77 (by kernel_rfl) ?_
 rw [zbc] at h
 refine adv (ok X) 7 [] pT (by kernel_rfl) ?_
 refine lp (ok X) (zcz (zbc n) a0) (fun (x1:(Int × (List z06)))=>⟨29,0,[(1,[xP 0 0]),(2,[xP 1 0]),(3,[xR 2]),(4,[xI x1.1])],[oB 166 (bs (zc5 a0)),oB 152 [.pv (.int .i64 0),.pv (.int .i64 0),.pv (.str (ByteArray.mk #[])),.emp],oR true 152 4 (List.map z1o x1.2)]⟩) (fun (j1:(List z06))=>⟨29,0,[(1,[xP 0 0]),(2,[xP 1 0]),(3,[xR 2])],[oB 166 (bs (zc5 a0)),oB 152 [.pv (.int .i64 0),.pv (.int .i64 0),.pv (.str (ByteArray.mk #[])),.emp],oR true 152 4 (List.map z1o j1)]⟩) zwn (0,[]) (fun _=>⟨_,_,_,_,rfl⟩) h (by kernel_rfl) (fun x1 o h=>?_) (fun r' h=>?_) (fun j1 h=>?_)
 ·unfold zcz at h
  refine adv (ok X) 3 [.i (a0.Kids.length:Int)] (pA (lm z62 a0.Kids) pT) (by kernel_rfl) ?_
  rcases iteE h with ⟨k1,h⟩|⟨k1,h⟩
  ·obtain ⟨v1,k2,h⟩:=z07 h
   obtain ⟨v2,k3,h⟩:=z07 h
   obtain ⟨v3,k4,h⟩:=z07 h
   obtain rfl:=retE h
   exact fin (ok X) 7 [.b true,.e (zc5 v1),.c (za0 v2),.bl (List.map z1o [v2]),.l (List.map z1o v3)] (pA k1 (pA (ixr zpt k2) (pA (ih_l02_Expr _ _ k3) (pA (blc (e:=z1o) (x:=v2) (z5e _).symm (bl0 z1o)) (pA (apm (L:=x1.2) (M:=[v2]) zoc k4) pT))))) (by kernel_rfl)
  ·obtain rfl:=retE h
   exact fin (ok X) 2 [.b false] (pA k1 pT) (by kernel_rfl)
 ·cases h
 ·obtain rfl:=retE h
  exact fin (ok X) 3 [] pT (by kernel_rfl)
theorem zmo:∀ n:Nat,(∀ (a0:z4n) (r:z06),zbc n a0=some r→Cv Tryz.prog (GX X) 77 [.agg (bs (zc5 a0))] (za0 r))
 | 0=>(fun _ _ h=>by rw [zbc] at h;cases h)
 | n+1=>by
  have ih:=zmo n
  exact zwv ih
theorem zm3 {a0:z4n} {r:z06} (h:zkg a0=some r):Cv Tryz.prog (GX X) 77 [.agg (bs (zc5 a0))] (za0 r):=by
 obtain ⟨n,hn⟩:=unfE h
 exact (zmo n) _ _ hn
theorem zww {a0:zcg} {r:z4j} (h:zkh a0=some r):Cv Tryz.prog (GX X) 78 [.agg (bs (zp2 a0))] (zlr r):=by
 refine Cs.toV (?_:Cs Tryz.prog (GX X) 78 [.agg (bs (zp2 a0))] [] (zlr r) (zwo r)) (by kernel_rfl)
 refine fnT (cx:=cx X) Tryz.f78 Tryz.call78 Tryz.func78 (by kernel_rfl) ?_
 unfold zkh at h
 obtain ⟨v1,k1,h⟩:=z07 h
 obtain ⟨v2,k2,h⟩:=z07 h
 obtain rfl:=retE h
 exact fin (ok X) 5 [.o [0,1,2,3,4,5,6,7,8,9],.c (za0 v1),.c (za0 v2)] (pA (zm3 (X:=X) k1) (pA (zm3 (X:=X) k2) pT)) (by kernel_rfl)
theorem zt7 {n:Nat} (ih_l02_Stmts:∀ (a0:(List z1n)) (r:(List z05)),z8j n a0=some r→Cv Tryz.prog (GX X) 37 [xL (List.map z5j a0)] (z8y r)) (a0:(List z1n)) (r:(List z05)) (h:z8j (n+1) a0=some r):Cv Tryz.prog (GX X) 37 [xL (List.map z5j a0)] (z8y r):=by
 refine Cs.toV (?_:Cs Tryz.prog (GX X) 37 [xL (List.map z5j a0)] [] (z8y r) (zns r)) (by kernel_rfl)
 refine fnT (cx:=cx X) Tryz.f37 Tryz.call37 Tryz.func37 (by kernel_rfl) ?_
 rw [z8j] at h
 refine adv (ok X) 7 [] pT (by kernel_rfl) ?_
 refine lp (ok X) (zc7 (z8j n) a0) (fun (x1:(Int × (List z05)))=>⟨74,0,[(0,[xL (List.map z5j a0)]),(3,[xR 0]),(4,[xI x1.1])],[oR true 157 19 (List.map z1e x1.2)]⟩) (fun (j1:(List z05))=>⟨74,0,[(3,[xR 0])],[oR true 157 19 (List.map z1e j1)]⟩) znt (0,[]) (fun _=>⟨_,_,_,_,rfl⟩) h (by kernel_rfl) (fun x1 o h=>?_) (fun r' h=>?_) (fun j1 h=>?_)
 ·unfold zc7 at h
  refine adv (ok X) 3 [.i (a0.length:Int)] (pA (lm z5j a0) pT) (by kernel_rfl) ?_
  rcases iteE h with ⟨k1,h⟩|⟨k1,h⟩
  ·obtain ⟨v1,k2,h⟩:=z07 h
   obtain ⟨v2,k3,h⟩:=z07 h
   obtain ⟨v3,k4,h⟩:=z07 h
   obtain ⟨v4,k5,h⟩:=z07 h
   obtain ⟨v5,k6,h⟩:=z07 h
   refine adv (ok X) 11 [.b true,.e (zp4 v1),.o [0,1,2,3,4,5,6,7,8,9,10,11,12,13,14,15,16,17,18,19,20],.c (za0 v2),.c (zlr v3),.c (z8y v4),.c (z8y v5)] (pA k1 (pA (ixr zpu k2) (pA (zm3 (X:=X) k3) (pA (zww (X:=X) k4) (pA (ih_l02_Stmts _ _ k5) (pA (ih_l02_Stmts _ _ k6) pT)))))) (by kernel_rfl) ?_
   refine lp (ok X) (zc6 (z8j n) v1) (fun (x2:(Int × (List z1r)))=>⟨74,0,[(0,[xL (List.map z5j a0)]),(3,[xR 0]),(4,[xI x1.1]),(5,[xP 1 0]),(6,[xP 2 0]),(7,[xI x2.1])],[oR true 157 19 (List.map z1e x1.2),oB 171 (bs (zp4 v1)),oB 157 [.pv (.int .i64 v1.Kind),.pv (.str v1.Name),.pv (.str v1.Tag),.pv (.int .i64 v2.Kind),.pv (.int .i64 v2.Num),.pv (.str v2.Name),.pv (.sl (List.map z1o v2.Kids)),.pv (.int .i64 v3.Op),.pv (.int .i64 v3.L.Kind),.pv (.int .i64 v3.L.Num),.pv (.str v3.L.Name),.pv (.sl (List.map z1o v3.L.Kids)),.pv (.int .i64 v3.R.Kind),.pv (.int .i64 v3.R.Num),.pv (.str v3.R.Name),.pv (.sl (List.map z1o v3.R.Kids)),.pv (.sl (List.map z1e v4)),.pv (.sl (List.map z1e v5)),.row 3],oR true 205 3 (List.map z3l x2.2)]⟩) (fun (j2:(List z1r))=>⟨74,0,[(0,[xL (List.map z5j a0)]),(3,[xR 0]),(4,[xI x1.1]),(6,[xP 2 0])],[oR true 157 19 (List.map z1e x1.2),none,oB 157 [.pv (.int .i64 v1.Kind),.pv (.str v1.Name),.pv (.str v1.Tag),.pv (.int .i64 v2.Kind),.pv (.int .i64 v2.Num),.pv (.str v2.Name),.pv (.sl (List.map z1o v2.Kids)),.pv (.int .i64 v3.Op),.pv (.int .i64 v3.L.Kind),.pv (.int .i64 v3.L.Num),.pv (.str v3.L.Name),.pv (.sl (List.map z1o v3.L.Kids)),.pv (.int .i64 v3.R.Kind),.pv (.int .i64 v3.R.Num),.pv (.str v3.R.Name),.pv (.sl (List.map z1o v3.R.Kids)),.pv (.sl (List.map z1e v4)),.pv (.sl (List.map z1e v5)),.row 3],oR true 205 3 (List.map z3l j2)]⟩) znt (0,[]) (fun _=>⟨_,_,_,_,rfl⟩) h (by kernel_rfl) (fun x2 o h=>?_) (fun r' h=>?_) (fun j2 h=>?_)
   ·unfold zc6 at h
    refine adv (ok X) 3 [.i (v1.Arms.length:Int)] (pA (lm zej v1.Arms) pT) (by kernel_rfl) ?_
    rcases iteE h with ⟨k7,h⟩|⟨k7,h⟩
    ·obtain ⟨v6,k8,h⟩:=z07 h
     obtain ⟨v7,k9,h⟩:=z07 h
     obtain ⟨v8,k10,h⟩:=z07 h
     obtain rfl:=retE h
     exact fin (ok X) 7 [.b true,.o [0,1,2,3,4,5,6,7,8,9,10,11,12,13,14,15,16,17,18,19,20,21,22,23,24,25],.e (znp v6),.e (znp v6),.e (znp v6),.c (z8y v7),.bl (List.map z3l [(z1r.mk v6.Tag v6.Var v7)]),.l (List.map z3l v8)] (pA k7 (pA (ixr zhp k8) (pA (ixr zhp k8) (pA (ixr zhp k8) (pA (ih_l02_Stmts _ _ k9) (pA (blc (e:=z3l) (x:=(z1r.mk v6.Tag v6.Var v7)) (zc4 _).symm (bl0 z3l)) (pA (apm (L:=x2.2) (M:=[(z1r.mk v6.Tag v6.Var v7)]) zgu k10) pT))))))) (by kernel_rfl)
    ·obtain rfl:=retE h
     exact fin (ok X) 2 [.b false] (pA k7 pT) (by kernel_rfl)
   ·cases h
   ·obtain ⟨v9,k11,h⟩:=z07 h
    obtain rfl:=retE h
    exact fin (ok X) 3 [.z (.fz 3),.bl (List.map z1e [(z05.mk v1.Kind v1.Name v1.Tag v2 v3 v4 v5 j2)]),.l (List.map z1e v9)] (pA (blc (e:=z1e) (x:=(z05.mk v1.Kind v1.Name v1.Tag v2 v3 v4 v5 j2)) (zch _).symm (bl0 z1e)) (pA (apm (L:=x1.2) (M:=[(z05.mk v1.Kind v1.Name v1.Tag v2 v3 v4 v5 j2)]) zj1 k11) pT)) (by kernel_rfl)
  ·obtain rfl:=retE h
   exact fin (ok X) 2 [.b false] (pA k1 pT) (by kernel_rfl)
 ·cases h
 ·obtain rfl:=retE h
  exact fin (ok X) 3 [] pT (by kernel_rfl)
theorem zkt:∀ n:Nat,(∀ (a0:(List z1n)) (r:(List z05)),z8j n a0=some r→Cv Tryz.prog (GX X) 37 [xL (List.map z5j a0)] (z8y r))
 | 0=>(fun _ _ h=>by rw [z8j] at h;cases h)
 | n+1=>by
  have ih:=zkt n
  exact zt7 ih
theorem zt8 {a0:(List z1n)} {r:(List z05)} (h:znu a0=some r):Cv Tryz.prog (GX X) 37 [xL (List.map z5j a0)] (z8y r):=by
 obtain ⟨n,hn⟩:=unfE h
 exact (zkt n) _ _ hn
theorem zrk {a0:z63} {r:z17} (h:zee a0=some r):Cv Tryz.prog (GX X) 14 [.agg (bs (z8q a0))] (zfd r):=by
 refine Cs.toV (?_:Cs Tryz.prog (GX X) 14 [.agg (bs (z8q a0))] [] (zfd r) (zmm r)) (by kernel_rfl)
 refine fnT (cx:=cx X) Tryz.f14 Tryz.call14 Tryz.func14 (by kernel_rfl) ?_
 unfold zee at h
 refine adv (ok X) 7 [] pT (by kernel_rfl) ?_
 refine lp (ok X) (zar a0) (fun (x1:(Int × (List z29)))=>⟨124,0,[(1,[xP 0 0]),(2,[xP 1 0]),(3,[xP 2 0]),(4,[xI x1.1])],[oB 26 (bs (z8q a0)),oB 67 [.emp,.emp,.emp],oB 67 [.row 3,.emp,.emp],oR true 126 6 (List.map z0c x1.2)]⟩) (fun (j1:(List z29))=>⟨124,0,[(1,[xP 0 0]),(2,[xP 1 0]),(3,[xP 2 0])],[oB 26 (bs (z8q a0)),oB 67 [.emp,.emp,.emp],oB 67 [.row 3,.emp,.emp],oR true 126 6 (List.map z0c j1)]⟩) zfe (0,[]) (fun _=>⟨_,_,_,_,rfl⟩) h (by kernel_rfl) (fun x1 o h=>?_) (fun r' h=>?_) (fun j1 h=>?_)
 ·unfold zar at h
  refine adv (ok X) 3 [.i (a0.Chans.length:Int)] (pA (lm zc1 a0.Chans) pT) (by kernel_rfl) ?_
  rcases iteE h with ⟨k1,h⟩|⟨k1,h⟩
  ·obtain ⟨v1,k2,h⟩:=z07 h
   obtain ⟨v2,k3,h⟩:=z07 h
   obtain ⟨v3,k4,h⟩:=z07 h
   obtain rfl:=retE h
   exact fin (ok X) 9 [.b true,.e (zc1 v1),.o [0,1,2,3,4,5,6,7,8,9,10,11,12,13,14,15,16,17,18,19,20],.cp (List.map z09 v2),.l (List.map z0c v3)] (pA k1 (pA (ixm zc1 k2) (pA (apm zcq k3) (pA (apm (L:=x1.2) (M:=[(z29.mk v1.Name v1.Kind v1.Size v1.From v1.To v2)]) zj2 k4) pT)))) (by kernel_rfl)
  ·obtain rfl:=retE h
   exact fin (ok X) 2 [.b false] (pA k1 pT) (by kernel_rfl)
 ·cases h
 ·refine adv (ok X) 3 [] pT (by kernel_rfl) ?_
  refine lp (ok X) (zat a0) (fun (x2:(Int × (List z3e)))=>⟨124,0,[(1,[xP 0 0]),(2,[xP 1 0]),(3,[xP 2 0]),(6,[xI x2.1])],[oB 26 (bs (z8q a0)),oB 67 [.emp,.emp,.emp],oB 67 [.row 3,.row 4,.emp],oR true 126 6 (List.map z0c j1),oR true 120 2 (List.map z0e x2.2)]⟩) (fun (j2:(List z3e))=>⟨124,0,[(1,[xP 0 0]),(2,[xP 1 0]),(3,[xP 2 0])],[oB 26 (bs (z8q a0)),oB 67 [.emp,.emp,.emp],oB 67 [.row 3,.row 4,.emp],oR true 126 6 (List.map z0c j1),oR true 120 2 (List.map z0e j2)]⟩) zfe (0,[]) (fun _=>⟨_,_,_,_,rfl⟩) h (by kernel_rfl) (fun x2 o h=>?_) (fun r' h=>?_) (fun j2 h=>?_)
  ·unfold zat at h
   refine adv (ok X) 3 [.i (a0.Rules.length:Int)] (pA (lm zc3 a0.Rules) pT) (by kernel_rfl) ?_
   rcases iteE h with ⟨k5,h⟩|⟨k5,h⟩
   ·obtain ⟨v4,k6,h⟩:=z07 h
    refine adv (ok X) 9 [.b true,.e (zc3 v4)] (pA k5 (pA (ixm zc3 k6) pT)) (by kernel_rfl) ?_
    refine lp (ok X) (zas a0 x2) (fun (x3:(Int × (List z5d)))=>⟨124,0,[(1,[xP 0 0]),(2,[xP 1 0]),(3,[xP 2 0]),(6,[xI x2.1]),(7,[xP 5 0]),(8,[xI x3.1])],[oB 26 (bs (z8q a0)),oB 67 [.emp,.emp,.emp],oB 67 [.row 3,.row 4,.emp],oR true 126 6 (List.map z0c j1),oR true 120 2 (List.map z0e x2.2),oB 120 [.pv (.str v4.Chan),.row 6],oR true 127 3 (List.map z5x x3.2)]⟩) (fun (j3:(List z5d))=>⟨124,0,[(1,[xP 0 0]),(2,[xP 1 0]),(3,[xP 2 0]),(6,[xI x2.1]),(7,[xP 5 0])],[oB 26 (bs (z8q a0)),oB 67 [.emp,.emp,.emp],oB 67 [.row 3,.row 4,.emp],oR true 126 6 (List.map z0c j1),oR true 120 2 (List.map z0e x2.2),oB 120 [.pv (.str v4.Chan),.row 6],oR true 127 3 (List.map z5x j3)]⟩) zfe (0,[]) (fun _=>⟨_,_,_,_,rfl⟩) h (by kernel_rfl) (fun x3 o h=>?_) (fun r' h=>?_) (fun j3 h=>?_)
    ·unfold zas at h
     obtain ⟨v5,k7,h⟩:=z07 h
     refine adv (ok X) 3 [.e (zc3 v5),.i (v5.Moves.length:Int)] (pA (ixm zc3 k7) (pA (lm z45 v5.Moves) pT)) (by kernel_rfl) ?_
     rcases iteE h with ⟨k8,h⟩|⟨k8,h⟩
     ·obtain ⟨v6,k9,h⟩:=z07 h
      obtain ⟨v7,k10,h⟩:=z07 h
      obtain ⟨v8,k11,h⟩:=z07 h
      obtain rfl:=retE h
      exact fin (ok X) 9 [.b true,.e (zc3 v6),.e (z45 v7),.l (List.map z5x v8)] (pA k8 (pA (ixm zc3 k9) (pA (ixm z45 k10) (pA (apm (L:=x3.2) (M:=[(z5d.mk v7.From v7.Tag v7.To)]) zj3 k11) pT)))) (by kernel_rfl)
     ·obtain rfl:=retE h
      exact fin (ok X) 2 [.b false] (pA k8 pT) (by kernel_rfl)
    ·cases h
    ·obtain ⟨v9,k12,h⟩:=z07 h
     obtain rfl:=retE h
     exact fin (ok X) 3 [.z (.fz 6),.l (List.map z0e v9)] (pA (apm (L:=x2.2) (M:=[(z3e.mk v4.Chan j3)]) zj4 k12) pT) (by kernel_rfl)
   ·obtain rfl:=retE h
    exact fin (ok X) 2 [.b false] (pA k5 pT) (by kernel_rfl)
  ·cases h
  ·refine adv (ok X) 3 [] pT (by kernel_rfl) ?_
   refine lp (ok X) (zau a0) (fun (x4:(Int × (List z3k)))=>⟨124,0,[(1,[xP 0 0]),(2,[xP 1 0]),(3,[xP 2 0]),(10,[xI x4.1])],[oB 26 (bs (z8q a0)),oB 67 [.emp,.emp,.emp],oB 67 [.row 3,.row 4,.row 5],oR true 126 6 (List.map z0c j1),oR true 120 2 (List.map z0e j2),oR true 124 3 (List.map z0d x4.2)]⟩) (fun (j4:(List z3k))=>⟨124,0,[(2,[xP 1 0]),(3,[xP 2 0])],[none,oB 67 [.emp,.emp,.emp],oB 67 [.row 3,.row 4,.row 5],oR true 126 6 (List.map z0c j1),oR true 120 2 (List.map z0e j2),oR true 124 3 (List.map z0d j4)]⟩) zfe (0,[]) (fun _=>⟨_,_,_,_,rfl⟩) h (by kernel_rfl) (fun x4 o h=>?_) (fun r' h=>?_) (fun j4 h=>?_)
   ·unfold zau at h
    refine adv (ok X) 3 [.i (a0.Procs.length:Int)] (pA (lm zc2 a0.Procs) pT) (by kernel_rfl) ?_
    rcases iteE h with ⟨k13,h⟩|⟨k13,h⟩
    ·obtain ⟨v10,k14,h⟩:=z07 h
     obtain ⟨v11,k15,h⟩:=z07 h
     obtain ⟨v12,k16,h⟩:=z07 h
     obtain ⟨v13,k17,h⟩:=z07 h
     obtain rfl:=retE h
     exact fin (ok X) 9 [.b true,.e (zc2 v10),.o [0,1,2,3,4,5,6,7,8,9,10,11,12,13,14,15],.cp (List.map z09 v11),.c (z8y v12),.l (List.map z0d v13)] (pA k13 (pA (ixm zc2 k14) (pA (apm zcq k15) (pA (zt8 (X:=X) k16) (pA (apm (L:=x4.2) (M:=[(z3k.mk v10.Name v11 v12)]) zj5 k17) pT))))) (by kernel_rfl)
    ·obtain rfl:=retE h
     exact fin (ok X) 2 [.b false] (pA k13 pT) (by kernel_rfl)
   ·cases h
   ·obtain rfl:=retE h
    exact fin (ok X) 3 [] pT (by kernel_rfl)
theorem z0l {a0:z02} {a1:(List ByteArray)} {r:z02} (h:z0f a0 a1=some r):Cs Tryz.prog (GX X) 139 [xP 0 0,xL (List.map z09 a1)] [oB 246 [.row 1,.pv (.bool a0.f_form),.pv (.bool a0.f_deep),.pv (.int .i64 a0.f_blocks),.pv (.int .i64 a0.f_parens)],oR false 9 1 (List.map z09 a0.f_out)] (z0j r) (z0k r):=by
 refine fnT (cx:=cx X) Tryz.f139 Tryz.call139 Tryz.func139 (by kernel_rfl) ?_
 unfold z0f at h
 obtain ⟨v1,k1,h⟩:=z07 h
 obtain rfl:=retE h
 exact fin (ok X) 1 [.l (List.map z09 v1)] (pA (apm (L:=a0.f_out) (M:=a1) zcq k1) pT) (by kernel_rfl)
theorem zi3 {a0:Int} {r:Bool} (h:zef a0=some r):Cv Tryz.prog (GX X) 124 [.c (.pv (.int .u8 a0))] (zdh r):=by
 refine Cs.toV (?_:Cs Tryz.prog (GX X) 124 [.c (.pv (.int .u8 a0))] [] (zdh r) (zr9 r)) (by kernel_rfl)
 refine fnT (cx:=cx X) Tryz.f124 Tryz.call124 Tryz.func124 (by kernel_rfl) ?_
 unfold zef at h
 rcases iteE h with ⟨k1,h⟩|⟨k1,h⟩
 ·obtain rfl:=retE h
  exact fin (ok X) 5 (bT 3 []) (pR 3 k1 pT) (by kernel_rfl)
 ·obtain rfl:=retE h
  exact fin (ok X) 5 (bF 3 []) (pR 3 k1 pT) (by kernel_rfl)
theorem znz {a0:Int} {r:Bool} (h:zga a0=some r):Cv Tryz.prog (GX X) 127 [.c (.pv (.int .u8 a0))] (zgv r):=by
 refine Cs.toV (?_:Cs Tryz.prog (GX X) 127 [.c (.pv (.int .u8 a0))] [] (zgv r) (zt2 r)) (by kernel_rfl)
 refine fnT (cx:=cx X) Tryz.f127 Tryz.call127 Tryz.func127 (by kernel_rfl) ?_
 unfold zga at h
 rcases iteE h with ⟨k1,h⟩|⟨k1,h⟩
 ·obtain rfl:=retE h
  exact fin (ok X) 5 (bT 3 []) (pR 3 k1 pT) (by kernel_rfl)
 ·obtain rfl:=retE h
  exact fin (ok X) 5 (bF 3 []) (pR 3 k1 pT) (by kernel_rfl)
theorem zrl {a0:ByteArray} {r:Int} (h:zls a0=some r):Cv Tryz.prog (GX X) 126 [xS a0] (zhr r):=by
 refine Cs.toV (?_:Cs Tryz.prog (GX X) 126 [xS a0] [] (zhr r) (zra r)) (by kernel_rfl)
 refine fnT (cx:=cx X) Tryz.f126 Tryz.call126 Tryz.func126 (by kernel_rfl) ?_
 unfold zls at h
 refine adv (ok X) 5 [] pT (by kernel_rfl) ?_
 refine lp (ok X) (zd0 a0) (fun (x1:Int)=>⟨23,0,[(0,[xS a0]),(3,[xI x1])],[]⟩) (fun (j1:Int)=>⟨23,0,[(3,[xI j1])],[]⟩) zz2 0 (fun _=>⟨_,_,_,_,rfl⟩) h (by kernel_rfl) (fun x1 o h=>?_) (fun r' h=>?_) (fun j1 h=>?_)
 ·unfold zd0 at h
  refine adv (ok X) 2 [] pT (by kernel_rfl) ?_
  refine jn (ok X) 1 (fun (j2:Bool)=>⟨23,0,[(0,[xS a0]),(3,[xI x1]),(19,[xB j2])],[]⟩) h (fun j2 h=>?_) (fun j2 h=>?_)
  ·rcases iteE h with ⟨k1,h⟩|⟨k1,h⟩
   ·obtain ⟨v1,k2,h⟩:=z07 h
    obtain ⟨v2,k3,h⟩:=z07 h
    rcases iteE h with ⟨k4,h⟩|⟨k4,h⟩
    ·obtain rfl:=retE h
     exact fin (ok X) 1 (bT 3 (.i v1::.b true::.c (zdh v2)::bT 8 [])) (pR 3 k1 (pA k2 (pA k1 (pA (zi3 (X:=X) k3) (pA k1 (pR 4 k4 (pA k1 (pA k4 (pA k1 pT))))))))) (by kernel_rfl)
    ·obtain ⟨v3,k5,h⟩:=z07 h
     obtain ⟨v4,k6,h⟩:=z07 h
     obtain rfl:=retE h
     exact fin (ok X) 1 (bT 3 (.i v1::.b true::.c (zdh v2)::.b true::bF 3 [.i v3,.b false,.c (zgv v4),.b true,.b false,.b true])) (pR 3 k1 (pA k2 (pA k1 (pA (zi3 (X:=X) k3) (pA k1 (pR 3 k4 (pA k5 (pA k4 (pA (znz (X:=X) k6) (pA k1 (pA k4 (pA k1 pT)))))))))))) (by kernel_rfl)
   ·obtain rfl:=retE h
    exact fin (ok X) 1 (bF 7 []) (pR 7 k1 pT) (by kernel_rfl)
  ·rcases iteE h with ⟨k7,h⟩|⟨k7,h⟩
   ·obtain rfl:=retE h
    exact fin (ok X) 5 [.b true] (pA k7 pT) (by kernel_rfl)
   ·obtain rfl:=retE h
    exact fin (ok X) 2 [.b false] (pA k7 pT) (by kernel_rfl)
 ·cases h
 ·obtain rfl:=retE h
  exact fin (ok X) 3 [] pT (by kernel_rfl)
theorem zoj {a0:ByteArray} {r:Bool} (h:zdi a0=some r):Cv Tryz.prog (GX X) 149 [xS a0] (zfz r):=by
 refine Cs.toV (?_:Cs Tryz.prog (GX X) 149 [xS a0] [] (zfz r) (zod r)) (by kernel_rfl)
 refine fnT (cx:=cx X) Tryz.f149 Tryz.call149 Tryz.func149 (by kernel_rfl) ?_
 unfold zdi at h
 rcases iteE h with ⟨k1,h⟩|⟨k1,h⟩
 ·obtain rfl:=retE h
  exact fin (ok X) 15 [.b true,.b true] (pA k1 (pA k1 pT)) (by kernel_rfl)
 ·refine adv (ok X) 12 [.b false] (pA k1 pT) (by kernel_rfl) ?_
  rcases iteE h with ⟨k2,h⟩|⟨k2,h⟩
  ·obtain rfl:=retE h
   exact fin (ok X) 6 [.b true,.b true] (pA k2 (pA k2 pT)) (by kernel_rfl)
  ·refine adv (ok X) 3 [.b false] (pA k2 pT) (by kernel_rfl) ?_
   rcases iteE h with ⟨k3,h⟩|⟨k3,h⟩
   ·obtain rfl:=retE h
    exact fin (ok X) 6 [.b true,.b true] (pA k3 (pA k3 pT)) (by kernel_rfl)
   ·refine adv (ok X) 3 [.b false] (pA k3 pT) (by kernel_rfl) ?_
    rcases iteE h with ⟨k4,h⟩|⟨k4,h⟩
    ·obtain rfl:=retE h
     exact fin (ok X) 6 [.b true,.b true] (pA k4 (pA k4 pT)) (by kernel_rfl)
    ·refine adv (ok X) 3 [.b false] (pA k4 pT) (by kernel_rfl) ?_
     rcases iteE h with ⟨k5,h⟩|⟨k5,h⟩
     ·obtain rfl:=retE h
      exact fin (ok X) 6 [.b true,.b true] (pA k5 (pA k5 pT)) (by kernel_rfl)
     ·refine adv (ok X) 3 [.b false] (pA k5 pT) (by kernel_rfl) ?_
      rcases iteE h with ⟨k6,h⟩|⟨k6,h⟩
      ·obtain rfl:=retE h
       exact fin (ok X) 6 [.b true,.b true] (pA k6 (pA k6 pT)) (by kernel_rfl)
      ·refine adv (ok X) 3 [.b false] (pA k6 pT) (by kernel_rfl) ?_
       rcases iteE h with ⟨k7,h⟩|⟨k7,h⟩
       ·obtain rfl:=retE h
        exact fin (ok X) 6 [.b true,.b true] (pA k7 (pA k7 pT)) (by kernel_rfl)
       ·refine adv (ok X) 2 [.b false] (pA k7 pT) (by kernel_rfl) ?_
        rcases iteE h with ⟨k8,h⟩|⟨k8,h⟩
        ·obtain rfl:=retE h
         exact fin (ok X) 4 [.b true] (pA k8 pT) (by kernel_rfl)
        ·refine adv (ok X) 4 [.b false] (pA k8 pT) (by kernel_rfl) ?_
         rcases iteE h with ⟨k9,h⟩|⟨k9,h⟩
         ·obtain rfl:=retE h
          exact fin (ok X) 6 [.b true,.b true] (pA k9 (pA k9 pT)) (by kernel_rfl)
         ·refine adv (ok X) 3 [.b false] (pA k9 pT) (by kernel_rfl) ?_
          rcases iteE h with ⟨k10,h⟩|⟨k10,h⟩
          ·obtain rfl:=retE h
           exact fin (ok X) 6 [.b true,.b true] (pA k10 (pA k10 pT)) (by kernel_rfl)
          ·refine adv (ok X) 3 [.b false] (pA k10 pT) (by kernel_rfl) ?_
           rcases iteE h with ⟨k11,h⟩|⟨k11,h⟩
           ·obtain rfl:=retE h
            exact fin (ok X) 6 [.b true,.b true] (pA k11 (pA k11 pT)) (by kernel_rfl)
           ·refine adv (ok X) 3 [.b false] (pA k11 pT) (by kernel_rfl) ?_
            rcases iteE h with ⟨k12,h⟩|⟨k12,h⟩
            ·obtain rfl:=retE h
             exact fin (ok X) 6 [.b true,.b true] (pA k12 (pA k12 pT)) (by kernel_rfl)
            ·refine adv (ok X) 3 [.b false] (pA k12 pT) (by kernel_rfl) ?_
             rcases iteE h with ⟨k13,h⟩|⟨k13,h⟩
             ·obtain rfl:=retE h
              exact fin (ok X) 6 [.b true,.b true] (pA k13 (pA k13 pT)) (by kernel_rfl)
             ·refine adv (ok X) 3 [.b false] (pA k13 pT) (by kernel_rfl) ?_
              rcases iteE h with ⟨k14,h⟩|⟨k14,h⟩
              ·obtain rfl:=retE h
               exact fin (ok X) 6 [.b true,.b true] (pA k14 (pA k14 pT)) (by kernel_rfl)
              ·refine adv (ok X) 3 [.b false] (pA k14 pT) (by kernel_rfl) ?_
               rcases iteE h with ⟨k15,h⟩|⟨k15,h⟩
               ·obtain rfl:=retE h
                exact fin (ok X) 6 [.b true,.b true] (pA k15 (pA k15 pT)) (by kernel_rfl)
               ·refine adv (ok X) 2 [.b false] (pA k15 pT) (by kernel_rfl) ?_
                rcases iteE h with ⟨k16,h⟩|⟨k16,h⟩
                ·obtain rfl:=retE h
                 exact fin (ok X) 4 [.b true] (pA k16 pT) (by kernel_rfl)
                ·obtain rfl:=retE h
                 exact fin (ok X) 6 [.b false] (pA k16 pT) (by kernel_rfl)
theorem zt9 {a0:ByteArray} {r:(z0n × Int)} (h:zgb a0=some r):Cv Tryz.prog (GX X) 125 [xS a0] (zjj r):=by
 refine Cs.toV (?_:Cs Tryz.prog (GX X) 125 [xS a0] [] (zjj r) (zt3 r)) (by kernel_rfl)
 refine fnT (cx:=cx X) Tryz.f125 Tryz.call125 Tryz.func125 (by kernel_rfl) ?_
 unfold zgb at h
 rcases iteE h with ⟨k1,h⟩|⟨k1,h⟩
 ·obtain rfl:=retE h
  exact fin (ok X) 10 [.b true] (pA k1 pT) (by kernel_rfl)
 ·obtain ⟨v1,k2,h⟩:=z07 h
  refine adv (ok X) 9 [.b false,.c (zfz v1)] (pA k1 (pA (zoj (X:=X) k2) pT)) (by kernel_rfl) ?_
  rcases iteE h with ⟨k3,h⟩|⟨k3,h⟩
  ·obtain rfl:=retE h
   exact fin (ok X) 4 [.b true] (pA k3 pT) (by kernel_rfl)
  ·obtain rfl:=retE h
   exact fin (ok X) 6 [.b false] (pA k3 pT) (by kernel_rfl)
theorem zwx {a0:ByteArray} {r:Int} (h:zki a0=some r):Cv Tryz.prog (GX X) 129 [xS a0] (zlt r):=by
 refine Cs.toV (?_:Cs Tryz.prog (GX X) 129 [xS a0] [] (zlt r) (zwp r)) (by kernel_rfl)
 refine fnT (cx:=cx X) Tryz.f129 Tryz.call129 Tryz.func129 (by kernel_rfl) ?_
 unfold zki at h
 refine adv (ok X) 4 [] pT (by kernel_rfl) ?_
 refine jn (ok X) 1 (fun (j1:Bool)=>⟨21,0,[(0,[xS a0]),(16,[xB j1])],[]⟩) h (fun j1 h=>?_) (fun j1 h=>?_)
 ·rcases iteE h with ⟨k1,h⟩|⟨k1,h⟩
  ·obtain ⟨v1,k2,h⟩:=z07 h
   rcases iteE h with ⟨k3,h⟩|⟨k3,h⟩
   ·obtain ⟨v2,k4,h⟩:=z07 h
    obtain ⟨v3,k5,h⟩:=z07 h
    obtain rfl:=retE h
    exact fin (ok X) 1 (.b true::.b true::.i v1::bT 4 [.i v2,.b true,.c (zt4 v3),.b true,.b true]) (pA k1 (pA k1 (pA k2 (pA k1 (pA k1 (pA k3 (pA k3 (pA k4 (pA k3 (pA (zz7 (X:=X) k5) (pA k3 (pA k3 pT)))))))))))) (by kernel_rfl)
   ·obtain rfl:=retE h
    exact fin (ok X) 1 (.b true::.b true::.i v1::.b true::.b true::bF 5 []) (pA k1 (pA k1 (pA k2 (pA k1 (pA k1 (pR 5 k3 pT)))))) (by kernel_rfl)
  ·obtain rfl:=retE h
   exact fin (ok X) 1 (bF 9 []) (pR 4 k1 (pR 5 ff pT)) (by kernel_rfl)
 ·rcases iteE h with ⟨k6,h⟩|⟨k6,h⟩
  ·obtain rfl:=retE h
   exact fin (ok X) 4 [.b true] (pA k6 pT) (by kernel_rfl)
  ·obtain ⟨v4,k7,h⟩:=z07 h
   obtain ⟨v5,k8,h⟩:=z07 h
   refine adv (ok X) 5 [.b false,.i v4,.c (zt4 v5)] (pA k6 (pA k7 (pA (zz7 (X:=X) k8) pT))) (by kernel_rfl) ?_
   rcases iteE h with ⟨k9,h⟩|⟨k9,h⟩
   ·obtain rfl:=retE h
    exact fin (ok X) 4 [.b true] (pA k9 pT) (by kernel_rfl)
   ·obtain rfl:=retE h
    exact fin (ok X) 5 [.b false] (pA k9 pT) (by kernel_rfl)
theorem zwy {a0:ByteArray} {r:(z0n × Int)} (h:zgw a0=some r):Cv Tryz.prog (GX X) 83 [xS a0] (zlu r):=by
 refine Cs.toV (?_:Cs Tryz.prog (GX X) 83 [xS a0] [] (zlu r) (zwq r)) (by kernel_rfl)
 refine fnT (cx:=cx X) Tryz.f83 Tryz.call83 Tryz.func83 (by kernel_rfl) ?_
 unfold zgw at h
 obtain ⟨v1,k1,h⟩:=z07 h
 obtain ⟨v2,k2,h⟩:=z07 h
 refine adv (ok X) 6 [.i v1,.c (zdh v2)] (pA k1 (pA (zi3 (X:=X) k2) pT)) (by kernel_rfl) ?_
 rcases iteE h with ⟨k3,h⟩|⟨k3,h⟩
 ·obtain ⟨v3,k4,h⟩:=z07 h
  obtain ⟨v4,k5,h⟩:=z07 h
  obtain ⟨v5,k6,h⟩:=z07 h
  obtain rfl:=retE h
  exact fin (ok X) 4 [.b true,.c (zhr v3),.x [xS v4],.c (zjj v5)] (pA k3 (pA (zrl (X:=X) k4) (pA k5 (pA (zt9 (X:=X) k6) pT)))) (by kernel_rfl)
 ·obtain ⟨v6,k7,h⟩:=z07 h
  obtain ⟨v7,k8,h⟩:=z07 h
  refine adv (ok X) 3 [.b false,.i v6,.c (zgv v7)] (pA k3 (pA k7 (pA (znz (X:=X) k8) pT))) (by kernel_rfl) ?_
  rcases iteE h with ⟨k9,h⟩|⟨k9,h⟩
  ·obtain ⟨v8,k10,h⟩:=z07 h
   obtain ⟨v9,k11,h⟩:=z07 h
   obtain ⟨v10,k12,h⟩:=z07 h
   obtain rfl:=retE h
   exact fin (ok X) 8 [.b true,.c (zhr v8),.x [xS v9],.c (zuw v10)] (pA k9 (pA (zrl (X:=X) k10) (pA k11 (pA (z01o (X:=X) k12) pT)))) (by kernel_rfl)
  ·obtain ⟨v11,k13,h⟩:=z07 h
   refine adv (ok X) 8 [.b false,.c (zlt v11)] (pA k9 (pA (zwx (X:=X) k13) pT)) (by kernel_rfl) ?_
   rcases iteE h with ⟨k14,h⟩|⟨k14,h⟩
   ·obtain rfl:=retE h
    exact fin (ok X) 4 [.b true] (pA k14 pT) (by kernel_rfl)
   ·obtain ⟨v12,k15,h⟩:=z07 h
    obtain rfl:=retE h
    exact fin (ok X) 5 [.b false,.x [xS v12]] (pA k14 (pA k15 pT)) (by kernel_rfl)
theorem zrm {a0:ByteArray} {r:((List z0n) × Int × Int)} (h:zhs a0=some r):Cv Tryz.prog (GX X) 41 [xS a0] (zht r):=by
 refine Cs.toV (?_:Cs Tryz.prog (GX X) 41 [xS a0] [] (zht r) (zrb r)) (by kernel_rfl)
 refine fnT (cx:=cx X) Tryz.f41 Tryz.call41 Tryz.func41 (by kernel_rfl) ?_
 unfold zhs at h
 refine adv (ok X) 7 [] pT (by kernel_rfl) ?_
 refine lp (ok X) (zd1 a0) (fun (x1:(Int × (List z0n)))=>⟨53,0,[(0,[xS a0]),(5,[xR 0]),(6,[xI x1.1])],[oR true 211 4 (List.map z1p x1.2)]⟩) (fun (j1:(List z0n))=>⟨53,0,[(0,[xS a0]),(5,[xR 0])],[oR true 211 4 (List.map z1p j1)]⟩) zz3 (0,[]) (fun _=>⟨_,_,_,_,rfl⟩) h (by kernel_rfl) (fun x1 o h=>?_) (fun r' h=>?_) (fun j1 h=>?_)
 ·unfold zd1 at h
  rcases iteE h with ⟨k1,h⟩|⟨k1,h⟩
  ·refine adv (ok X) 8 [.b true] (pA k1 pT) (by kernel_rfl) ?_
   refine jn (ok X) 1 (fun (j2:Bool)=>⟨53,0,[(0,[xS a0]),(5,[xR 0]),(6,[xI x1.1]),(22,[xB j2])],[oR true 211 4 (List.map z1p x1.2)]⟩) h (fun j2 h=>?_) (fun j2 h=>?_)
   ·obtain ⟨v1,k2,h⟩:=z07 h
    rcases iteE h with ⟨k3,h⟩|⟨k3,h⟩
    ·obtain rfl:=retE h
     exact fin (ok X) 1 (.i v1::bT 5 []) (pA k2 (pR 5 k3 pT)) (by kernel_rfl)
    ·obtain ⟨v2,k4,h⟩:=z07 h
     obtain rfl:=retE h
     exact fin (ok X) 1 (.i v1::bF 3 [.i v2,.b false,.b false]) (pA k2 (pR 3 k3 (pA k4 (pA k3 (pA k3 pT))))) (by kernel_rfl)
   ·rcases iteE h with ⟨k5,h⟩|⟨k5,h⟩
    ·obtain rfl:=retE h
     exact fin (ok X) 4 [.b true] (pA k5 pT) (by kernel_rfl)
    ·obtain ⟨v3,k6,h⟩:=z07 h
     obtain ⟨v4,k7,h⟩:=z07 h
     refine adv (ok X) 7 [.b false,.x [xS v3],.c (zlu v4)] (pA k5 (pA k6 (pA (zwy (X:=X) k7) pT))) (by kernel_rfl) ?_
     rcases iteE h with ⟨k8,h⟩|⟨k8,h⟩
     ·obtain rfl:=retE h
      exact fin (ok X) 4 [.b true] (pA k8 pT) (by kernel_rfl)
     ·obtain ⟨v5,k9,h⟩:=z07 h
      obtain rfl:=retE h
      exact fin (ok X) 8 [.b false,.l (List.map z1p v5)] (pA k8 (pA (apm (L:=x1.2) (M:=[(z0n.mk v4.1.Kind v4.1.Text v4.1.Num x1.1)]) zex k9) pT)) (by kernel_rfl)
  ·obtain rfl:=retE h
   exact fin (ok X) 5 [.b false] (pA k1 pT) (by kernel_rfl)
 ·obtain rfl:=retE h
  kernel_rfl
 ·refine adv (ok X) 3 [.i (j1.length:Int)] (pA (lm z1p j1) pT) (by kernel_rfl) ?_
  rcases iteE h with ⟨k10,h⟩|⟨k10,h⟩
  ·obtain rfl:=retE h
   exact fin (ok X) 4 [.b true] (pA k10 pT) (by kernel_rfl)
  ·obtain rfl:=retE h
   exact fin (ok X) 5 [.b false] (pA k10 pT) (by kernel_rfl)
theorem z3s {a0:z02} {a1:Bool} {r:z02} (h:z31 a0 a1=some r):Cs Tryz.prog (GX X) 141 [xP 0 0,xB a1] [oB 246 [.row 1,.pv (.bool a0.f_form),.pv (.bool a0.f_deep),.pv (.int .i64 a0.f_blocks),.pv (.int .i64 a0.f_parens)],oR false 9 1 (List.map z09 a0.f_out)] (z3h r) (z3i r):=by
 refine fnT (cx:=cx X) Tryz.f141 Tryz.call141 Tryz.func141 (by kernel_rfl) ?_
 unfold z31 at h
 rcases iteE h with ⟨k1,h⟩|⟨k1,h⟩
 ·obtain rfl:=retE h
  exact fin (ok X) 1 (bT 3 []) (pR 3 k1 pT) (by kernel_rfl)
 ·obtain rfl:=retE h
  exact fin (ok X) 1 (bF 3 []) (pR 3 k1 pT) (by kernel_rfl)
theorem z28 {a0:z02} {a1:ByteArray} {r:z02} (h:z1h a0 a1=some r):Cs Tryz.prog (GX X) 140 [xP 0 0,xS a1] [oB 246 [.row 1,.pv (.bool a0.f_form),.pv (.bool a0.f_deep),.pv (.int .i64 a0.f_blocks),.pv (.int .i64 a0.f_parens)],oR false 9 1 (List.map z09 a0.f_out)] (z22 r) (z23 r):=by
 refine fnT (cx:=cx X) Tryz.f140 Tryz.call140 Tryz.func140 (by kernel_rfl) ?_
 unfold z1h at h
 obtain ⟨v1,k1,h⟩:=z07 h
 refine adv (ok X) 3 [.c (zht v1)] (pA (zrm (X:=X) k1) pT) (by kernel_rfl) ?_
 refine jn (ok X) 1 (fun (j1:(Bool × Bool × Int × Int × (List ByteArray)))=>⟨41,2,[(0,[xP 0 0]),(1,[xS a1])],[oB 246 [.row 1,.pv (.bool j1.1),.pv (.bool j1.2.1),.pv (.int .i64 j1.2.2.1),.pv (.int .i64 j1.2.2.2.1)],oR false 9 1 (List.map z09 j1.2.2.2.2)]⟩) h (fun j1 h=>?_) (fun j1 h=>?_)
 ·rcases iteE h with ⟨k2,h⟩|⟨k2,h⟩
  ·rcases iteE h with ⟨k3,h⟩|⟨k3,h⟩
   ·obtain ⟨v2,k4,h⟩:=z07 h
    rcases iteE h with ⟨k5,h⟩|⟨k5,h⟩
    ·obtain ⟨v3,k6,h⟩:=z07 h
     obtain ⟨v4,k7,h⟩:=z07 h
     obtain rfl:=retE h
     exact fin (ok X) 1 (.b true::.b true::.i (v1.1.length:Int)::bT 4 (.e (z1p v2)::bT 6 (.e (z1p v3)::bT 5 [.s (z3h v4) (z3i v4)]))) (pA k2 (pA k2 (pA (lm z1p v1.1) (pA k2 (pA k2 (pA k3 (pA k3 (pA (ixm z1p k4) (pR 4 k3 (pA k5 (pA k5 (pA (ixm z1p k6) (pR 5 k5 (pA (z3s (X:=X) k7) pT)))))))))))))) (by kernel_rfl)
    ·obtain ⟨v5,k8,h⟩:=z07 h
     obtain rfl:=retE h
     exact fin (ok X) 1 (.b true::.b true::.i (v1.1.length:Int)::bT 4 (.e (z1p v2)::bT 4 (bF 7 [.s (z3h v5) (z3i v5)]))) (pA k2 (pA k2 (pA (lm z1p v1.1) (pA k2 (pA k2 (pA k3 (pA k3 (pA (ixm z1p k4) (pR 4 k3 (pR 7 k5 (pA (z3s (X:=X) k8) pT))))))))))) (by kernel_rfl)
   ·obtain ⟨v6,k9,h⟩:=z07 h
    obtain rfl:=retE h
    exact fin (ok X) 1 (.b true::.b true::.i (v1.1.length:Int)::.b true::.b true::bF 13 [.s (z3h v6) (z3i v6)]) (pA k2 (pA k2 (pA (lm z1p v1.1) (pA k2 (pA k2 (pR 6 k3 (pR 7 ff (pA (z3s (X:=X) k9) pT)))))))) (by kernel_rfl)
  ·obtain ⟨v7,k10,h⟩:=z07 h
   obtain rfl:=retE h
   exact fin (ok X) 1 (bF 17 [.s (z3h v7) (z3i v7)]) (pR 4 k2 (pR 13 ff (pA (z3s (X:=X) k10) pT))) (by kernel_rfl)
 ·obtain ⟨v8,k11,h⟩:=z07 h
  obtain rfl:=retE h
  exact fin (ok X) 1 [.s (z0j v8) (z0k v8)] (pA (z0l (X:=X) k11) pT) (by kernel_rfl)
theorem z8d {a0:z02} {a1:Int} {r:z02} (h:z4x a0 a1=some r):Cs Tryz.prog (GX X) 142 [xP 0 0,xI a1] [oB 246 [.row 1,.pv (.bool a0.f_form),.pv (.bool a0.f_deep),.pv (.int .i64 a0.f_blocks),.pv (.int .i64 a0.f_parens)],oR false 9 1 (List.map z09 a0.f_out)] (z72 r) (z73 r):=by
 refine fnT (cx:=cx X) Tryz.f142 Tryz.call142 Tryz.func142 (by kernel_rfl) ?_
 unfold z4x at h
 refine adv (ok X) 1 [] pT (by kernel_rfl) ?_
 refine jn (ok X) 1 (fun (j1:(Bool × Bool × Int × Int × (List ByteArray)))=>⟨17,2,[(0,[xP 0 0]),(1,[xI a1])],[oB 246 [.row 1,.pv (.bool j1.1),.pv (.bool j1.2.1),.pv (.int .i64 j1.2.2.1),.pv (.int .i64 j1.2.2.2.1)],oR false 9 1 (List.map z09 j1.2.2.2.2)]⟩) h (fun j1 h=>?_) (fun j1 h=>?_)
 ·rcases iteE h with ⟨k1,h⟩|⟨k1,h⟩
  ·obtain ⟨v1,k2,h⟩:=z07 h
   obtain rfl:=retE h
   exact fin (ok X) 1 (bT 3 [.s (z3h v1) (z3i v1)]) (pR 3 k1 (pA (z3s (X:=X) k2) pT)) (by kernel_rfl)
  ·obtain ⟨v2,k3,h⟩:=z07 h
   obtain rfl:=retE h
   exact fin (ok X) 1 (bF 3 [.s (z3h v2) (z3i v2)]) (pR 3 k1 (pA (z3s (X:=X) k3) pT)) (by kernel_rfl)
 ·obtain ⟨v3,k4,h⟩:=z07 h
  obtain ⟨v4,k5,h⟩:=z07 h
  obtain rfl:=retE h
  exact fin (ok X) 1 [.c (z036 v3),.s (z0j v4) (z0k v4)] (pA (z07r (X:=X) k4) (pA (z0l (X:=X) k5) pT)) (by kernel_rfl)
theorem zir {a0:z02} {a1:z29} {r:z02} (h:z7m a0 a1=some r):Cs Tryz.prog (GX X) 112 [xP 0 0,.agg (bs (z0c a1))] [oB 246 [.row 1,.pv (.bool a0.f_form),.pv (.bool a0.f_deep),.pv (.int .i64 a0.f_blocks),.pv (.int .i64 a0.f_parens)],oR false 9 1 (List.map z09 a0.f_out)] (zb6 r) (zb7 r):=by
 refine fnT (cx:=cx X) Tryz.f112 Tryz.call112 Tryz.func112 (by kernel_rfl) ?_
 unfold z7m at h
 obtain ⟨v1,k1,h⟩:=z07 h
 obtain ⟨v2,k2,h⟩:=z07 h
 refine adv (ok X) 8 [.s (z0j v1) (z0k v1),.s (z22 v2) (z23 v2)] (pA (z0l (X:=X) k1) (pA (z28 (X:=X) k2) pT)) (by kernel_rfl) ?_
 refine jn (ok X) 1 (fun (j1:Bool)=>⟨77,2,[(0,[xP 0 0]),(3,[xP 2 0]),(20,[xB j1])],[oB 246 [.row 1,.pv (.bool v2.f_form),.pv (.bool v2.f_deep),.pv (.int .i64 v2.f_blocks),.pv (.int .i64 v2.f_parens)],oR true 9 1 (List.map z09 v2.f_out),oB 126 (bs (z0c a1))]⟩) h (fun j1 h=>?_) (fun j1 h=>?_)
 ·rcases iteE h with ⟨k3,h⟩|⟨k3,h⟩
  ·obtain rfl:=retE h
   exact fin (ok X) 1 (bT 4 []) (pR 4 k3 pT) (by kernel_rfl)
  ·obtain rfl:=retE h
   exact fin (ok X) 1 (bF 4 []) (pR 4 k3 pT) (by kernel_rfl)
 ·rcases iteE h with ⟨k4,h⟩|⟨k4,h⟩
  ·obtain ⟨v3,k5,h⟩:=z07 h
   obtain ⟨v4,k6,h⟩:=z07 h
   obtain ⟨v5,k7,h⟩:=z07 h
   obtain ⟨v6,k8,h⟩:=z07 h
   obtain ⟨v7,k9,h⟩:=z07 h
   obtain ⟨v8,k10,h⟩:=z07 h
   obtain ⟨v9,k11,h⟩:=z07 h
   obtain ⟨v10,k12,h⟩:=z07 h
   refine adv (ok X) 19 [.b true,.s (z3h v3) (z3i v3),.s (z72 v4) (z73 v4),.s (z0j v5) (z0k v5),.s (z22 v6) (z23 v6),.s (z0j v7) (z0k v7),.s (z22 v8) (z23 v8),.s (z0j v9) (z0k v9),.i (a1.Tags.length:Int),.s (z3h v10) (z3i v10),.i (a1.Tags.length:Int)] (pA k4 (pA (z3s (X:=X) k5) (pA (z8d (X:=X) k6) (pA (z0l (X:=X) k7) (pA (z28 (X:=X) k8) (pA (z0l (X:=X) k9) (pA (z28 (X:=X) k10) (pA (z0l (X:=X) k11) (pA (lm z09 a1.Tags) (pA (z3s (X:=X) k12) (pA (lm z09 a1.Tags) pT))))))))))) (by kernel_rfl) ?_
   refine lp (ok X) (z5m a1) (fun (x2:(Int × Bool × Bool × Int × Int × (List ByteArray)))=>⟨77,2,[(0,[xP 0 0]),(58,[xL (List.map z09 a1.Tags)]),(59,[xI (a1.Tags.length:Int)]),(60,[xI x2.1])],[oB 246 [.row 1,.pv (.bool x2.2.1),.pv (.bool x2.2.2.1),.pv (.int .i64 x2.2.2.2.1),.pv (.int .i64 x2.2.2.2.2.1)],oR true 9 1 (List.map z09 x2.2.2.2.2.2)]⟩) (fun (j2:(Bool × Bool × Int × Int × (List ByteArray)))=>⟨77,2,[(0,[xP 0 0])],[oB 246 [.row 1,.pv (.bool j2.1),.pv (.bool j2.2.1),.pv (.int .i64 j2.2.2.1),.pv (.int .i64 j2.2.2.2.1)],oR true 9 1 (List.map z09 j2.2.2.2.2)]⟩) zdz (0,v10.f_form,v10.f_deep,v10.f_blocks,v10.f_parens,v10.f_out) (fun _=>⟨_,_,_,_,rfl⟩) h (by kernel_rfl) (fun x2 o h=>?_) (fun r' h=>?_) (fun j2 h=>?_)
   ·unfold z5m at h
    rcases iteE h with ⟨k13,h⟩|⟨k13,h⟩
    ·refine adv (ok X) 6 [.b true] (pA k13 pT) (by kernel_rfl) ?_
     refine jn (ok X) 1 (fun (j3:(Bool × Bool × Int × Int × (List ByteArray)))=>⟨77,2,[(0,[xP 0 0]),(58,[xL (List.map z09 a1.Tags)]),(59,[xI (a1.Tags.length:Int)]),(60,[xI x2.1])],[oB 246 [.row 1,.pv (.bool j3.1),.pv (.bool j3.2.1),.pv (.int .i64 j3.2.2.1),.pv (.int .i64 j3.2.2.2.1)],oR true 9 1 (List.map z09 j3.2.2.2.2)]⟩) h (fun j3 h=>?_) (fun j3 h=>?_)
     ·obtain ⟨v11,k14,h⟩:=z07 h
      refine adv (ok X) 6 [.e [.str v11]] (pA (ixm z09 k14) pT) (by kernel_rfl) ?_
      rcases iteE h with ⟨k15,h⟩|⟨k15,h⟩
      ·obtain ⟨v12,k16,h⟩:=z07 h
       obtain ⟨v13,k17,h⟩:=z07 h
       obtain rfl:=retE h
       exact fin (ok X) 4 [.b true,.s (z0j v12) (z0k v12),.s (z22 v13) (z23 v13)] (pA k15 (pA (z0l (X:=X) k16) (pA (z28 (X:=X) k17) pT))) (by kernel_rfl)
      ·obtain ⟨v14,k18,h⟩:=z07 h
       obtain rfl:=retE h
       exact fin (ok X) 4 [.b false,.s (z22 v14) (z23 v14)] (pA k15 (pA (z28 (X:=X) k18) pT)) (by kernel_rfl)
     ·obtain rfl:=retE h
      exact fin (ok X) 1 [] pT (by kernel_rfl)
    ·obtain rfl:=retE h
     exact fin (ok X) 5 [.b false] (pA k13 pT) (by kernel_rfl)
   ·cases h
   ·obtain ⟨v15,k19,h⟩:=z07 h
    obtain rfl:=retE h
    exact fin (ok X) 1 [.s (z0j v15) (z0k v15)] (pA (z0l (X:=X) k19) pT) (by kernel_rfl)
  ·obtain ⟨v16,k20,h⟩:=z07 h
   obtain ⟨v17,k21,h⟩:=z07 h
   obtain ⟨v18,k22,h⟩:=z07 h
   obtain ⟨v19,k23,h⟩:=z07 h
   obtain ⟨v20,k24,h⟩:=z07 h
   obtain ⟨v21,k25,h⟩:=z07 h
   obtain ⟨v22,k26,h⟩:=z07 h
   obtain ⟨v23,k27,h⟩:=z07 h
   obtain ⟨v24,k28,h⟩:=z07 h
   refine adv (ok X) 19 [.b false,.e [.str v16],.s (z0j v17) (z0k v17),.s (z72 v18) (z73 v18),.s (z0j v19) (z0k v19),.s (z22 v20) (z23 v20),.s (z0j v21) (z0k v21),.s (z22 v22) (z23 v22),.s (z0j v23) (z0k v23),.i (a1.Tags.length:Int),.s (z3h v24) (z3i v24),.i (a1.Tags.length:Int)] (pA k4 (pA (ixm z09 k20) (pA (z0l (X:=X) k21) (pA (z8d (X:=X) k22) (pA (z0l (X:=X) k23) (pA (z28 (X:=X) k24) (pA (z0l (X:=X) k25) (pA (z28 (X:=X) k26) (pA (z0l (X:=X) k27) (pA (lm z09 a1.Tags) (pA (z3s (X:=X) k28) (pA (lm z09 a1.Tags) pT)))))))))))) (by kernel_rfl) ?_
   refine lp (ok X) (z5n a1) (fun (x4:(Int × Bool × Bool × Int × Int × (List ByteArray)))=>⟨77,2,[(0,[xP 0 0]),(58,[xL (List.map z09 a1.Tags)]),(59,[xI (a1.Tags.length:Int)]),(60,[xI x4.1])],[oB 246 [.row 1,.pv (.bool x4.2.1),.pv (.bool x4.2.2.1),.pv (.int .i64 x4.2.2.2.1),.pv (.int .i64 x4.2.2.2.2.1)],oR true 9 1 (List.map z09 x4.2.2.2.2.2)]⟩) (fun (j4:(Bool × Bool × Int × Int × (List ByteArray)))=>⟨77,2,[(0,[xP 0 0])],[oB 246 [.row 1,.pv (.bool j4.1),.pv (.bool j4.2.1),.pv (.int .i64 j4.2.2.1),.pv (.int .i64 j4.2.2.2.1)],oR true 9 1 (List.map z09 j4.2.2.2.2)]⟩) zdz (0,v24.f_form,v24.f_deep,v24.f_blocks,v24.f_parens,v24.f_out) (fun _=>⟨_,_,_,_,rfl⟩) h (by kernel_rfl) (fun x4 o h=>?_) (fun r' h=>?_) (fun j4 h=>?_)
   ·unfold z5n at h
    rcases iteE h with ⟨k29,h⟩|⟨k29,h⟩
    ·refine adv (ok X) 6 [.b true] (pA k29 pT) (by kernel_rfl) ?_
     refine jn (ok X) 1 (fun (j5:(Bool × Bool × Int × Int × (List ByteArray)))=>⟨77,2,[(0,[xP 0 0]),(58,[xL (List.map z09 a1.Tags)]),(59,[xI (a1.Tags.length:Int)]),(60,[xI x4.1])],[oB 246 [.row 1,.pv (.bool j5.1),.pv (.bool j5.2.1),.pv (.int .i64 j5.2.2.1),.pv (.int .i64 j5.2.2.2.1)],oR true 9 1 (List.map z09 j5.2.2.2.2)]⟩) h (fun j5 h=>?_) (fun j5 h=>?_)
     ·obtain ⟨v25,k30,h⟩:=z07 h
      refine adv (ok X) 6 [.e [.str v25]] (pA (ixm z09 k30) pT) (by kernel_rfl) ?_
      rcases iteE h with ⟨k31,h⟩|⟨k31,h⟩
      ·obtain ⟨v26,k32,h⟩:=z07 h
       obtain ⟨v27,k33,h⟩:=z07 h
       obtain rfl:=retE h
       exact fin (ok X) 4 [.b true,.s (z0j v26) (z0k v26),.s (z22 v27) (z23 v27)] (pA k31 (pA (z0l (X:=X) k32) (pA (z28 (X:=X) k33) pT))) (by kernel_rfl)
      ·obtain ⟨v28,k34,h⟩:=z07 h
       obtain rfl:=retE h
       exact fin (ok X) 4 [.b false,.s (z22 v28) (z23 v28)] (pA k31 (pA (z28 (X:=X) k34) pT)) (by kernel_rfl)
     ·obtain rfl:=retE h
      exact fin (ok X) 1 [] pT (by kernel_rfl)
    ·obtain rfl:=retE h
     exact fin (ok X) 5 [.b false] (pA k29 pT) (by kernel_rfl)
   ·cases h
   ·obtain ⟨v29,k35,h⟩:=z07 h
    obtain rfl:=retE h
    exact fin (ok X) 1 [.s (z0j v29) (z0k v29)] (pA (z0l (X:=X) k35) pT) (by kernel_rfl)
theorem zm4 {a0:z02} {a1:z3e} {r:z02} (h:z9c a0 a1=some r):Cs Tryz.prog (GX X) 113 [xP 0 0,.agg (bs (z0e a1))] [oB 246 [.row 1,.pv (.bool a0.f_form),.pv (.bool a0.f_deep),.pv (.int .i64 a0.f_blocks),.pv (.int .i64 a0.f_parens)],oR false 9 1 (List.map z09 a0.f_out)] (zd2 r) (zd3 r):=by
 refine fnT (cx:=cx X) Tryz.f113 Tryz.call113 Tryz.func113 (by kernel_rfl) ?_
 unfold z9c at h
 obtain ⟨v1,k1,h⟩:=z07 h
 obtain ⟨v2,k2,h⟩:=z07 h
 obtain ⟨v3,k3,h⟩:=z07 h
 refine adv (ok X) 11 [.s (z0j v1) (z0k v1),.s (z22 v2) (z23 v2),.s (z0j v3) (z0k v3),.i (a1.Moves.length:Int)] (pA (z0l (X:=X) k1) (pA (z28 (X:=X) k2) (pA (z0l (X:=X) k3) (pA (lm z5x a1.Moves) pT)))) (by kernel_rfl) ?_
 refine lp (ok X) (z6k a1) (fun (x1:(Int × Bool × Bool × Int × Int × (List ByteArray)))=>⟨42,2,[(0,[xP 0 0]),(17,[xL (List.map z5x a1.Moves)]),(18,[xI (a1.Moves.length:Int)]),(19,[xI x1.1])],[oB 246 [.row 1,.pv (.bool x1.2.1),.pv (.bool x1.2.2.1),.pv (.int .i64 x1.2.2.2.1),.pv (.int .i64 x1.2.2.2.2.1)],oR true 9 1 (List.map z09 x1.2.2.2.2.2)]⟩) (fun (j1:(Bool × Bool × Int × Int × (List ByteArray)))=>⟨42,2,[(0,[xP 0 0])],[oB 246 [.row 1,.pv (.bool j1.1),.pv (.bool j1.2.1),.pv (.int .i64 j1.2.2.1),.pv (.int .i64 j1.2.2.2.1)],oR true 9 1 (List.map z09 j1.2.2.2.2)]⟩) zlv (0,v3.f_form,v3.f_deep,v3.f_blocks,v3.f_parens,v3.f_out) (fun _=>⟨_,_,_,_,rfl⟩) h (by kernel_rfl) (fun x1 o h=>?_) (fun r' h=>?_) (fun j1 h=>?_)
 ·unfold z6k at h
  rcases iteE h with ⟨k4,h⟩|⟨k4,h⟩
  ·obtain ⟨v4,k5,h⟩:=z07 h
   obtain ⟨v5,k6,h⟩:=z07 h
   obtain ⟨v6,k7,h⟩:=z07 h
   obtain ⟨v7,k8,h⟩:=z07 h
   obtain ⟨v8,k9,h⟩:=z07 h
   obtain rfl:=retE h
   exact fin (ok X) 18 [.b true,.e (z5x v4),.s (z72 v5) (z73 v5),.s (z22 v6) (z23 v6),.s (z72 v7) (z73 v7),.s (z0j v8) (z0k v8)] (pA k4 (pA (ixm z5x k5) (pA (z8d (X:=X) k6) (pA (z28 (X:=X) k7) (pA (z8d (X:=X) k8) (pA (z0l (X:=X) k9) pT)))))) (by kernel_rfl)
  ·obtain rfl:=retE h
   exact fin (ok X) 5 [.b false] (pA k4 pT) (by kernel_rfl)
 ·cases h
 ·obtain ⟨v9,k10,h⟩:=z07 h
  obtain rfl:=retE h
  exact fin (ok X) 1 [.s (z0j v9) (z0k v9)] (pA (z0l (X:=X) k10) pT) (by kernel_rfl)
theorem zin {a0:Int} {r:Bool} (h:zgx a0=some r):Cv Tryz.prog (GX X) 202 [xI a0] (zeg r):=by
 refine Cs.toV (?_:Cs Tryz.prog (GX X) 202 [xI a0] [] (zeg r) (zwr r)) (by kernel_rfl)
 refine fnT (cx:=cx X) Tryz.f202 Tryz.call202 Tryz.func202 (by kernel_rfl) ?_
 unfold zgx at h
 rcases iteE h with ⟨k1,h⟩|⟨k1,h⟩
 ·obtain rfl:=retE h
  exact fin (ok X) 5 (bT 3 []) (pR 3 k1 pT) (by kernel_rfl)
 ·obtain rfl:=retE h
  exact fin (ok X) 5 (bF 3 []) (pR 3 k1 pT) (by kernel_rfl)
theorem zdn {a0:Int} {r:Bool} (h:zhu a0=some r):Cv Tryz.prog (GX X) 203 [xI a0] (zbd r):=by
 refine Cs.toV (?_:Cs Tryz.prog (GX X) 203 [xI a0] [] (zbd r) (zz4 r)) (by kernel_rfl)
 refine fnT (cx:=cx X) Tryz.f203 Tryz.call203 Tryz.func203 (by kernel_rfl) ?_
 unfold zhu at h
 rcases iteE h with ⟨k1,h⟩|⟨k1,h⟩
 ·obtain rfl:=retE h
  exact fin (ok X) 5 (bT 3 []) (pR 3 k1 pT) (by kernel_rfl)
 ·obtain rfl:=retE h
  exact fin (ok X) 5 (bF 3 []) (pR 3 k1 pT) (by kernel_rfl)
theorem zm5 {a0:z02} {a1:z06} {r:z02} (h:zae a0 a1=some r):Cs Tryz.prog (GX X) 204 [xP 0 0,.agg (bs (z0o a1))] [oB 246 [.row 1,.pv (.bool a0.f_form),.pv (.bool a0.f_deep),.pv (.int .i64 a0.f_blocks),.pv (.int .i64 a0.f_parens)],oR false 9 1 (List.map z09 a0.f_out)] (zgc r) (zgd r):=by
 refine fnT (cx:=cx X) Tryz.f204 Tryz.call204 Tryz.func204 (by kernel_rfl) ?_
 unfold zae at h
 obtain ⟨v1,k1,h⟩:=z07 h
 refine adv (ok X) 7 [.i (a1.Kids.length:Int),.s (z3h v1) (z3i v1)] (pA (lm z1o a1.Kids) (pA (z3s (X:=X) k1) pT)) (by kernel_rfl) ?_
 rcases iteE h with ⟨k2,h⟩|⟨k2,h⟩
 ·obtain ⟨v2,k3,h⟩:=z07 h
  obtain rfl:=retE h
  exact fin (ok X) 4 [.b true,.s (z72 v2) (z73 v2)] (pA k2 (pA (z8d (X:=X) k3) pT)) (by kernel_rfl)
 ·obtain ⟨v3,k4,h⟩:=z07 h
  obtain ⟨v4,k5,h⟩:=z07 h
  obtain rfl:=retE h
  exact fin (ok X) 5 [.b false,.s (z3h v3) (z3i v3),.s (z22 v4) (z23 v4)] (pA k2 (pA (z3s (X:=X) k4) (pA (z28 (X:=X) k5) pT))) (by kernel_rfl)
theorem zm6 {n:Nat} (ih_ast_writer_expr:∀ (a0:z02) (a1:z06) (r:z02),z2e n a0 a1=some r→Cs Tryz.prog (GX X) 182 [xP 0 0,.agg (bs (z0o a1))] [oB 246 [.row 1,.pv (.bool a0.f_form),.pv (.bool a0.f_deep),.pv (.int .i64 a0.f_blocks),.pv (.int .i64 a0.f_parens)],oR false 9 1 (List.map z09 a0.f_out)] (z34 r) (z35 r)) (ih_ast_writer_deeper_ast_writer_expr_1:∀ (a0:z02) (a1011:z06) (r:z02),z10 n a0 a1011=some r→Cs Tryz.prog (GX X) 199 [xP 0 0,.fn (.func 200) [] [.box 2 0,.box 3 0]] [oB 246 [.row 1,.pv (.bool a0.f_form),.pv (.bool a0.f_deep),.pv (.int .i64 a0.f_blocks),.pv (.int .i64 a0.f_parens)],oR false 9 1 (List.map z09 a0.f_out),oB 244 [.box 0 0],oB 152 (bs (z0o a1011))] (z1s r) (z1t a1011 r)) (ih_ast_writer_kid:∀ (a0:z02) (a1:z06) (a2:Bool) (r:z02),z2g n a0 a1 a2=some r→Cs Tryz.prog (GX X) 201 [xP 0 0,.agg (bs (z0o a1)),xB a2] [oB 246 [.row 1,.pv (.bool a0.f_form),.pv (.bool a0.f_deep),.pv (.int .i64 a0.f_blocks),.pv (.int .i64 a0.f_parens)],oR false 9 1 (List.map z09 a0.f_out)] (z48 r) (z49 r)) (ih_ast_writer_expr_1:∀ (a0:z02) (a1:z06) (r:z02),z3f n a0 a1=some r→Cs Tryz.prog (GX X) 200 [xP 0 0,xP 3 0] [oB 244 [.box 1 0],oB 246 [.row 2,.pv (.bool a0.f_form),.pv (.bool a0.f_deep),.pv (.int .i64 a0.f_blocks),.pv (.int .i64 a0.f_parens)],oR false 9 1 (List.map z09 a0.f_out),oB 152 (bs (z0o a1))] (z57 r) (z58 a1 r)) (ih_ast_writer_deeper_ast_writer_kid_1:∀ (a0:z02) (a1011:z06) (r:z02),z11 n a0 a1011=some r→Cs Tryz.prog (GX X) 199 [xP 0 0,.fn (.func 217) [] [.box 2 0,.box 3 0]] [oB 246 [.row 1,.pv (.bool a0.f_form),.pv (.bool a0.f_deep),.pv (.int .i64 a0.f_blocks),.pv (.int .i64 a0.f_parens)],oR false 9 1 (List.map z09 a0.f_out),oB 244 [.box 0 0],oB 152 (bs (z0o a1011))] (z1w r) (z1x a1011 r)) (ih_ast_writer_kid_1:∀ (a0:z02) (a1:z06) (r:z02),z3q n a0 a1=some r→Cs Tryz.prog (GX X) 217 [xP 0 0,xP 3 0] [oB 244 [.box 1 0],oB 246 [.row 2,.pv (.bool a0.f_form),.pv (.bool a0.f_deep),.pv (.int .i64 a0.f_blocks),.pv (.int .i64 a0.f_parens)],oR false 9 1 (List.map z09 a0.f_out),oB 152 (bs (z0o a1))] (z5g r) (z5h a1 r)) (a0:z02) (a1:z06) (r:z02) (h:z2e (n+1) a0 a1=some r):Cs Tryz.prog (GX X) 182 [xP 0 0,.agg (bs (z0o a1))] [oB 246 [.row 1,.pv (.bool a0.f_form),.pv (.bool a0.f_deep),.pv (.int .i64 a0.f_blocks),.pv (.int .i64 a0.f_parens)],oR false 9 1 (List.map z09 a0.f_out)] (z34 r) (z35 r):=by
 refine fnT (cx:=cx X) Tryz.f182 Tryz.call182 Tryz.func182 (by kernel_rfl) ?_
 rw [z2e] at h
 refine adv (ok X) 4 [] pT (by kernel_rfl) ?_
 refine jn (ok X) 1 (fun (j1:Bool)=>⟨80,2,[(2,[xP 2 0]),(3,[xP 3 0]),(9,[xB j1])],[oB 246 [.row 1,.pv (.bool a0.f_form),.pv (.bool a0.f_deep),.pv (.int .i64 a0.f_blocks),.pv (.int .i64 a0.f_parens)],oR false 9 1 (List.map z09 a0.f_out),oB 244 [.box 0 0],oB 152 (bs (z0o a1))]⟩) h (fun j1 h=>?_) (fun j1 h=>?_)
 ·rcases iteE h with ⟨k1,h⟩|⟨k1,h⟩
  ·obtain rfl:=retE h
   exact fin (ok X) 1 (bT 3 [.i (a1.Kids.length:Int),.b true,.b true]) (pR 3 k1 (pA (lm z1o a1.Kids) (pA k1 (pA k1 pT)))) (by kernel_rfl)
  ·obtain rfl:=retE h
   exact fin (ok X) 1 (bF 5 []) (pR 5 k1 pT) (by kernel_rfl)
 ·rcases iteE h with ⟨k2,h⟩|⟨k2,h⟩
  ·obtain ⟨v1,k3,h⟩:=z07 h
   obtain ⟨v2,k4,h⟩:=z07 h
   obtain rfl:=retE h
   exact fin (ok X) 5 [.b true,.s (z0j v1) (z0k v1),.s (z1s v2) (z1t a1 v2)] (pA k2 (pA (z0l (X:=X) k3) (pA (ih_ast_writer_deeper_ast_writer_expr_1 _ _ _ k4) pT))) (by kernel_rfl)
  ·refine adv (ok X) 2 [.b false] (pA k2 pT) (by kernel_rfl) ?_
   refine jn (ok X) 1 (fun (j2:Bool)=>⟨80,2,[(2,[xP 2 0]),(3,[xP 3 0]),(25,[xB j2])],[oB 246 [.row 1,.pv (.bool a0.f_form),.pv (.bool a0.f_deep),.pv (.int .i64 a0.f_blocks),.pv (.int .i64 a0.f_parens)],oR false 9 1 (List.map z09 a0.f_out),oB 244 [.box 0 0],oB 152 (bs (z0o a1))]⟩) h (fun j2 h=>?_) (fun j2 h=>?_)
   ·obtain ⟨v3,k5,h⟩:=z07 h
    rcases iteE h with ⟨k6,h⟩|⟨k6,h⟩
    ·obtain rfl:=retE h
     exact fin (ok X) 1 (.c (zeg v3)::bT 3 [.i (a1.Kids.length:Int),.b true,.b true]) (pA (zin (X:=X) k5) (pR 3 k6 (pA (lm z1o a1.Kids) (pA k6 (pA k6 pT))))) (by kernel_rfl)
    ·obtain rfl:=retE h
     exact fin (ok X) 1 (.c (zeg v3)::bF 5 []) (pA (zin (X:=X) k5) (pR 5 k6 pT)) (by kernel_rfl)
   ·rcases iteE h with ⟨k7,h⟩|⟨k7,h⟩
    ·obtain ⟨v4,k8,h⟩:=z07 h
     obtain ⟨v5,k9,h⟩:=z07 h
     refine adv (ok X) 4 [.b true,.o [0,1,2,3,4,5,6,7,8,9,10,11],.e (z0o v4),.e (z0o v5)] (pA k7 (pA (ixr z5e k8) (pA (ixr z5e k9) pT))) (by kernel_rfl) ?_
     refine jn (ok X) 1 (fun (j3:(Bool × Bool × Int × Int × (List ByteArray)))=>⟨80,2,[(2,[xP 2 0]),(3,[xP 3 0]),(5,[xP 5 0])],[oB 246 [.row 1,.pv (.bool j3.1),.pv (.bool j3.2.1),.pv (.int .i64 j3.2.2.1),.pv (.int .i64 j3.2.2.2.1)],oR true 9 1 (List.map z09 j3.2.2.2.2),oB 244 [.box 0 0],oB 152 (bs (z0o a1)),none,oB 152 (bs (z0o v5))]⟩) h (fun j3 h=>?_) (fun j3 h=>?_)
     ·obtain ⟨v6,k10,h⟩:=z07 h
      rcases iteE h with ⟨k11,h⟩|⟨k11,h⟩
      ·obtain ⟨v7,k12,h⟩:=z07 h
       obtain ⟨v8,k13,h⟩:=z07 h
       obtain rfl:=retE h
       exact fin (ok X) 1 (.o [0,1,2,3,4,5,6,7,8,9,10,11]::.c (zbd v6)::bT 3 [.c (zbd v7),.b true,.s (z48 v8) (z49 v8)]) (pA (zdn (X:=X) k10) (pR 3 k11 (pA (zdn (X:=X) k12) (pA k11 (pA (ih_ast_writer_kid _ _ _ _ k13) pT))))) (by kernel_rfl)
      ·obtain ⟨v9,k14,h⟩:=z07 h
       obtain rfl:=retE h
       exact fin (ok X) 1 (.o [0,1,2,3,4,5,6,7,8,9,10,11]::.c (zbd v6)::bF 4 [.s (z48 v9) (z49 v9)]) (pA (zdn (X:=X) k10) (pR 4 k11 (pA (ih_ast_writer_kid _ _ _ _ k14) pT))) (by kernel_rfl)
     ·obtain ⟨v10,k15,h⟩:=z07 h
      obtain ⟨v11,k16,h⟩:=z07 h
      refine adv (ok X) 2 [.o [0,1,2,3,4,5,6,7],.e [.str v10],.s (z0j v11) (z0k v11)] (pA (ixm z09 k15) (pA (z0l (X:=X) k16) pT)) (by kernel_rfl) ?_
      obtain ⟨v12,k17,h⟩:=z07 h
      rcases iteE h with ⟨k18,h⟩|⟨k18,h⟩
      ·obtain ⟨v13,k19,h⟩:=z07 h
       obtain rfl:=retE h
       exact fin (ok X) 2 (.o [0,1,2,3,4,5,6,7,8,9,10,11,12,13,14,15,16]::.c (zbd v12)::bT 7 [.s (z48 v13) (z49 v13)]) (pA (zdn (X:=X) k17) (pR 7 k18 (pA (ih_ast_writer_kid _ _ _ _ k19) pT))) (by kernel_rfl)
      ·obtain ⟨v14,k20,h⟩:=z07 h
       rcases iteE h with ⟨k21,h⟩|⟨k21,h⟩
       ·obtain ⟨v15,k22,h⟩:=z07 h
        obtain ⟨v16,k23,h⟩:=z07 h
        obtain rfl:=retE h
        exact fin (ok X) 2 (.o [0,1,2,3,4,5,6,7,8,9,10,11,12,13,14,15,16]::.c (zbd v12)::bF 3 (.c (zbd v14)::.b false::.b false::bT 3 [.c (zeg v15),.b false,.b true,.b false,.s (z48 v16) (z49 v16)])) (pA (zdn (X:=X) k17) (pR 3 k18 (pA (zdn (X:=X) k20) (pA k18 (pA k18 (pR 3 k21 (pA (zin (X:=X) k22) (pA k18 (pA k21 (pA k18 (pA (ih_ast_writer_kid _ _ _ _ k23) pT))))))))))) (by kernel_rfl)
       ·obtain ⟨v17,k24,h⟩:=z07 h
        obtain rfl:=retE h
        exact fin (ok X) 2 (.o [0,1,2,3,4,5,6,7,8,9,10,11,12,13,14,15,16]::.c (zbd v12)::bF 3 (.c (zbd v14)::bF 8 [.s (z48 v17) (z49 v17)])) (pA (zdn (X:=X) k17) (pR 3 k18 (pA (zdn (X:=X) k20) (pA k18 (pA k18 (pR 3 k21 (pA k18 (pA k21 (pA k18 (pA (ih_ast_writer_kid _ _ _ _ k24) pT)))))))))) (by kernel_rfl)
    ·obtain ⟨v18,k25,h⟩:=z07 h
     obtain rfl:=retE h
     exact fin (ok X) 3 [.b false,.s (zgc v18) (zgd v18)] (pA k7 (pA (zm5 (X:=X) k25) pT)) (by kernel_rfl)
theorem zbb {n:Nat} (ih_ast_writer_expr:∀ (a0:z02) (a1:z06) (r:z02),z2e n a0 a1=some r→Cs Tryz.prog (GX X) 182 [xP 0 0,.agg (bs (z0o a1))] [oB 246 [.row 1,.pv (.bool a0.f_form),.pv (.bool a0.f_deep),.pv (.int .i64 a0.f_blocks),.pv (.int .i64 a0.f_parens)],oR false 9 1 (List.map z09 a0.f_out)] (z34 r) (z35 r)) (ih_ast_writer_deeper_ast_writer_expr_1:∀ (a0:z02) (a1011:z06) (r:z02),z10 n a0 a1011=some r→Cs Tryz.prog (GX X) 199 [xP 0 0,.fn (.func 200) [] [.box 2 0,.box 3 0]] [oB 246 [.row 1,.pv (.bool a0.f_form),.pv (.bool a0.f_deep),.pv (.int .i64 a0.f_blocks),.pv (.int .i64 a0.f_parens)],oR false 9 1 (List.map z09 a0.f_out),oB 244 [.box 0 0],oB 152 (bs (z0o a1011))] (z1s r) (z1t a1011 r)) (ih_ast_writer_kid:∀ (a0:z02) (a1:z06) (a2:Bool) (r:z02),z2g n a0 a1 a2=some r→Cs Tryz.prog (GX X) 201 [xP 0 0,.agg (bs (z0o a1)),xB a2] [oB 246 [.row 1,.pv (.bool a0.f_form),.pv (.bool a0.f_deep),.pv (.int .i64 a0.f_blocks),.pv (.int .i64 a0.f_parens)],oR false 9 1 (List.map z09 a0.f_out)] (z48 r) (z49 r)) (ih_ast_writer_expr_1:∀ (a0:z02) (a1:z06) (r:z02),z3f n a0 a1=some r→Cs Tryz.prog (GX X) 200 [xP 0 0,xP 3 0] [oB 244 [.box 1 0],oB 246 [.row 2,.pv (.bool a0.f_form),.pv (.bool a0.f_deep),.pv (.int .i64 a0.f_blocks),.pv (.int .i64 a0.f_parens)],oR false 9 1 (List.map z09 a0.f_out),oB 152 (bs (z0o a1))] (z57 r) (z58 a1 r)) (ih_ast_writer_deeper_ast_writer_kid_1:∀ (a0:z02) (a1011:z06) (r:z02),z11 n a0 a1011=some r→Cs Tryz.prog (GX X) 199 [xP 0 0,.fn (.func 217) [] [.box 2 0,.box 3 0]] [oB 246 [.row 1,.pv (.bool a0.f_form),.pv (.bool a0.f_deep),.pv (.int .i64 a0.f_blocks),.pv (.int .i64 a0.f_parens)],oR false 9 1 (List.map z09 a0.f_out),oB 244 [.box 0 0],oB 152 (bs (z0o a1011))] (z1w r) (z1x a1011 r)) (ih_ast_writer_kid_1:∀ (a0:z02) (a1:z06) (r:z02),z3q n a0 a1=some r→Cs Tryz.prog (GX X) 217 [xP 0 0,xP 3 0] [oB 244 [.box 1 0],oB 246 [.row 2,.pv (.bool a0.f_form),.pv (.bool a0.f_deep),.pv (.int .i64 a0.f_blocks),.pv (.int .i64 a0.f_parens)],oR false 9 1 (List.map z09 a0.f_out),oB 152 (bs (z0o a1))] (z5g r) (z5h a1 r)) (a0:z02) (a1011:z06) (r:z02) (h:z10 (n+1) a0 a1011=some r):Cs Tryz.prog (GX X) 199 [xP 0 0,.fn (.func 200) [] [.box 2 0,.box 3 0]] [oB 246 [.row 1,.pv (.bool a0.f_form),.pv (.bool a0.f_deep),.pv (.int .i64 a0.f_blocks),.pv (.int .i64 a0.f_parens)],oR false 9 1 (List.map z09 a0.f_out),oB 244 [.box 0 0],oB 152 (bs (z0o a1011))] (z1s r) (z1t a1011 r):=by
 refine fnT (cx:=cx X) Tryz.f199 Tryz.call199 Tryz.func199 (by kernel_rfl) ?_
 rw [z10] at h
 refine adv (ok X) 3 [] pT (by kernel_rfl) ?_
 refine jn (ok X) 1 (fun (j1:Bool)=>⟨34,4,[(0,[xP 0 0]),(1,[.fn (.func 200) [] [.box 2 0,.box 3 0]])],[oB 246 [.row 1,.pv (.bool a0.f_form),.pv (.bool j1),.pv (.int .i64 a0.f_blocks),.pv (.int .i64 (IntKind.i64.wrap (a0.f_parens+1)))],oR false 9 1 (List.map z09 a0.f_out),oB 244 [.box 0 0],oB 152 (bs (z0o a1011))]⟩) h (fun j1 h=>?_) (fun j1 h=>?_)
 ·rcases iteE h with ⟨k1,h⟩|⟨k1,h⟩
  ·obtain rfl:=retE h
   exact fin (ok X) 1 (bT 6 []) (pR 6 k1 pT) (by kernel_rfl)
  ·obtain rfl:=retE h
   exact fin (ok X) 1 (bF 6 []) (pR 6 k1 pT) (by kernel_rfl)
 ·obtain ⟨v1,k2,h⟩:=z07 h
  obtain rfl:=retE h
  exact fin (ok X) 3 [.s (z57 v1) (z58 a1011 v1)] (pA (ih_ast_writer_expr_1 _ _ _ k2) pT) (by kernel_rfl)
theorem zmu {n:Nat} (ih_ast_writer_expr:∀ (a0:z02) (a1:z06) (r:z02),z2e n a0 a1=some r→Cs Tryz.prog (GX X) 182 [xP 0 0,.agg (bs (z0o a1))] [oB 246 [.row 1,.pv (.bool a0.f_form),.pv (.bool a0.f_deep),.pv (.int .i64 a0.f_blocks),.pv (.int .i64 a0.f_parens)],oR false 9 1 (List.map z09 a0.f_out)] (z34 r) (z35 r)) (ih_ast_writer_deeper_ast_writer_expr_1:∀ (a0:z02) (a1011:z06) (r:z02),z10 n a0 a1011=some r→Cs Tryz.prog (GX X) 199 [xP 0 0,.fn (.func 200) [] [.box 2 0,.box 3 0]] [oB 246 [.row 1,.pv (.bool a0.f_form),.pv (.bool a0.f_deep),.pv (.int .i64 a0.f_blocks),.pv (.int .i64 a0.f_parens)],oR false 9 1 (List.map z09 a0.f_out),oB 244 [.box 0 0],oB 152 (bs (z0o a1011))] (z1s r) (z1t a1011 r)) (ih_ast_writer_kid:∀ (a0:z02) (a1:z06) (a2:Bool) (r:z02),z2g n a0 a1 a2=some r→Cs Tryz.prog (GX X) 201 [xP 0 0,.agg (bs (z0o a1)),xB a2] [oB 246 [.row 1,.pv (.bool a0.f_form),.pv (.bool a0.f_deep),.pv (.int .i64 a0.f_blocks),.pv (.int .i64 a0.f_parens)],oR false 9 1 (List.map z09 a0.f_out)] (z48 r) (z49 r)) (ih_ast_writer_expr_1:∀ (a0:z02) (a1:z06) (r:z02),z3f n a0 a1=some r→Cs Tryz.prog (GX X) 200 [xP 0 0,xP 3 0] [oB 244 [.box 1 0],oB 246 [.row 2,.pv (.bool a0.f_form),.pv (.bool a0.f_deep),.pv (.int .i64 a0.f_blocks),.pv (.int .i64 a0.f_parens)],oR false 9 1 (List.map z09 a0.f_out),oB 152 (bs (z0o a1))] (z57 r) (z58 a1 r)) (ih_ast_writer_deeper_ast_writer_kid_1:∀ (a0:z02) (a1011:z06) (r:z02),z11 n a0 a1011=some r→Cs Tryz.prog (GX X) 199 [xP 0 0,.fn (.func 217) [] [.box 2 0,.box 3 0]] [oB 246 [.row 1,.pv (.bool a0.f_form),.pv (.bool a0.f_deep),.pv (.int .i64 a0.f_blocks),.pv (.int .i64 a0.f_parens)],oR false 9 1 (List.map z09 a0.f_out),oB 244 [.box 0 0],oB 152 (bs (z0o a1011))] (z1w r) (z1x a1011 r)) (ih_ast_writer_kid_1:∀ (a0:z02) (a1:z06) (r:z02),z3q n a0 a1=some r→Cs Tryz.prog (GX X) 217 [xP 0 0,xP 3 0] [oB 244 [.box 1 0],oB 246 [.row 2,.pv (.bool a0.f_form),.pv (.bool a0.f_deep),.pv (.int .i64 a0.f_blocks),.pv (.int .i64 a0.f_parens)],oR false 9 1 (List.map z09 a0.f_out),oB 152 (bs (z0o a1))] (z5g r) (z5h a1 r)) (a0:z02) (a1:z06) (a2:Bool) (r:z02) (h:z2g (n+1) a0 a1 a2=some r):Cs Tryz.prog (GX X) 201 [xP 0 0,.agg (bs (z0o a1)),xB a2] [oB 246 [.row 1,.pv (.bool a0.f_form),.pv (.bool a0.f_deep),.pv (.int .i64 a0.f_blocks),.pv (.int .i64 a0.f_parens)],oR false 9 1 (List.map z09 a0.f_out)] (z48 r) (z49 r):=by
 refine fnT (cx:=cx X) Tryz.f201 Tryz.call201 Tryz.func201 (by kernel_rfl) ?_
 rw [z2g] at h
 rcases iteE h with ⟨k1,h⟩|⟨k1,h⟩
 ·obtain ⟨v1,k2,h⟩:=z07 h
  obtain rfl:=retE h
  exact fin (ok X) 9 [.b true,.s (z34 v1) (z35 v1)] (pA k1 (pA (ih_ast_writer_expr _ _ _ k2) pT)) (by kernel_rfl)
 ·obtain ⟨v2,k3,h⟩:=z07 h
  obtain ⟨v3,k4,h⟩:=z07 h
  obtain ⟨v4,k5,h⟩:=z07 h
  obtain rfl:=retE h
  exact fin (ok X) 12 [.b false,.s (z0j v2) (z0k v2),.s (z1w v3) (z1x a1 v3),.s (z0j v4) (z0k v4)] (pA k1 (pA (z0l (X:=X) k3) (pA (ih_ast_writer_deeper_ast_writer_kid_1 _ _ _ k4) (pA (z0l (X:=X) k5) pT)))) (by kernel_rfl)
theorem zjs {n:Nat} (ih_ast_writer_expr:∀ (a0:z02) (a1:z06) (r:z02),z2e n a0 a1=some r→Cs Tryz.prog (GX X) 182 [xP 0 0,.agg (bs (z0o a1))] [oB 246 [.row 1,.pv (.bool a0.f_form),.pv (.bool a0.f_deep),.pv (.int .i64 a0.f_blocks),.pv (.int .i64 a0.f_parens)],oR false 9 1 (List.map z09 a0.f_out)] (z34 r) (z35 r)) (ih_ast_writer_deeper_ast_writer_expr_1:∀ (a0:z02) (a1011:z06) (r:z02),z10 n a0 a1011=some r→Cs Tryz.prog (GX X) 199 [xP 0 0,.fn (.func 200) [] [.box 2 0,.box 3 0]] [oB 246 [.row 1,.pv (.bool a0.f_form),.pv (.bool a0.f_deep),.pv (.int .i64 a0.f_blocks),.pv (.int .i64 a0.f_parens)],oR false 9 1 (List.map z09 a0.f_out),oB 244 [.box 0 0],oB 152 (bs (z0o a1011))] (z1s r) (z1t a1011 r)) (ih_ast_writer_kid:∀ (a0:z02) (a1:z06) (a2:Bool) (r:z02),z2g n a0 a1 a2=some r→Cs Tryz.prog (GX X) 201 [xP 0 0,.agg (bs (z0o a1)),xB a2] [oB 246 [.row 1,.pv (.bool a0.f_form),.pv (.bool a0.f_deep),.pv (.int .i64 a0.f_blocks),.pv (.int .i64 a0.f_parens)],oR false 9 1 (List.map z09 a0.f_out)] (z48 r) (z49 r)) (ih_ast_writer_expr_1:∀ (a0:z02) (a1:z06) (r:z02),z3f n a0 a1=some r→Cs Tryz.prog (GX X) 200 [xP 0 0,xP 3 0] [oB 244 [.box 1 0],oB 246 [.row 2,.pv (.bool a0.f_form),.pv (.bool a0.f_deep),.pv (.int .i64 a0.f_blocks),.pv (.int .i64 a0.f_parens)],oR false 9 1 (List.map z09 a0.f_out),oB 152 (bs (z0o a1))] (z57 r) (z58 a1 r)) (ih_ast_writer_deeper_ast_writer_kid_1:∀ (a0:z02) (a1011:z06) (r:z02),z11 n a0 a1011=some r→Cs Tryz.prog (GX X) 199 [xP 0 0,.fn (.func 217) [] [.box 2 0,.box 3 0]] [oB 246 [.row 1,.pv (.bool a0.f_form),.pv (.bool a0.f_deep),.pv (.int .i64 a0.f_blocks),.pv (.int .i64 a0.f_parens)],oR false 9 1 (List.map z09 a0.f_out),oB 244 [.box 0 0],oB 152 (bs (z0o a1011))] (z1w r) (z1x a1011 r)) (ih_ast_writer_kid_1:∀ (a0:z02) (a1:z06) (r:z02),z3q n a0 a1=some r→Cs Tryz.prog (GX X) 217 [xP 0 0,xP 3 0] [oB 244 [.box 1 0],oB 246 [.row 2,.pv (.bool a0.f_form),.pv (.bool a0.f_deep),.pv (.int .i64 a0.f_blocks),.pv (.int .i64 a0.f_parens)],oR false 9 1 (List.map z09 a0.f_out),oB 152 (bs (z0o a1))] (z5g r) (z5h a1 r)) (a0:z02) (a1:z06) (r:z02) (h:z3f (n+1) a0 a1=some r):Cs Tryz.prog (GX X) 200 [xP 0 0,xP 3 0] [oB 244 [.box 1 0],oB 246 [.row 2,.pv (.bool a0.f_form),.pv (.bool a0.f_deep),.pv (.int .i64 a0.f_blocks),.pv (.int .i64 a0.f_parens)],oR false 9 1 (List.map z09 a0.f_out),oB 152 (bs (z0o a1))] (z57 r) (z58 a1 r):=by
 refine fnT (cx:=cx X) Tryz.f200 Tryz.call200 Tryz.func200 (by kernel_rfl) ?_
 rw [z3f] at h
 obtain ⟨v1,k1,h⟩:=z07 h
 obtain ⟨v2,k2,h⟩:=z07 h
 obtain ⟨v3,k3,h⟩:=z07 h
 obtain rfl:=retE h
 exact fin (ok X) 1 [.o [0,1,2,3,4,5,6,7,8,9,10,11],.e (z0o v1),.e (z0o v1),.c (zeg v2),.s (z48 v3) (z49 v3)] (pA (ixr z5e k1) (pA (ixr z5e k1) (pA (zin (X:=X) k2) (pA (ih_ast_writer_kid _ _ _ _ k3) pT)))) (by kernel_rfl)
theorem zbf {n:Nat} (ih_ast_writer_expr:∀ (a0:z02) (a1:z06) (r:z02),z2e n a0 a1=some r→Cs Tryz.prog (GX X) 182 [xP 0 0,.agg (bs (z0o a1))] [oB 246 [.row 1,.pv (.bool a0.f_form),.pv (.bool a0.f_deep),.pv (.int .i64 a0.f_blocks),.pv (.int .i64 a0.f_parens)],oR false 9 1 (List.map z09 a0.f_out)] (z34 r) (z35 r)) (ih_ast_writer_deeper_ast_writer_expr_1:∀ (a0:z02) (a1011:z06) (r:z02),z10 n a0 a1011=some r→Cs Tryz.prog (GX X) 199 [xP 0 0,.fn (.func 200) [] [.box 2 0,.box 3 0]] [oB 246 [.row 1,.pv (.bool a0.f_form),.pv (.bool a0.f_deep),.pv (.int .i64 a0.f_blocks),.pv (.int .i64 a0.f_parens)],oR false 9 1 (List.map z09 a0.f_out),oB 244 [.box 0 0],oB 152 (bs (z0o a1011))] (z1s r) (z1t a1011 r)) (ih_ast_writer_kid:∀ (a0:z02) (a1:z06) (a2:Bool) (r:z02),z2g n a0 a1 a2=some r→Cs Tryz.prog (GX X) 201 [xP 0 0,.agg (bs (z0o a1)),xB a2] [oB 246 [.row 1,.pv (.bool a0.f_form),.pv (.bool a0.f_deep),.pv (.int .i64 a0.f_blocks),.pv (.int .i64 a0.f_parens)],oR false 9 1 (List.map z09 a0.f_out)] (z48 r) (z49 r)) (ih_ast_writer_expr_1:∀ (a0:z02) (a1:z06) (r:z02),z3f n a0 a1=some r→Cs Tryz.prog (GX X) 200 [xP 0 0,xP 3 0] [oB 244 [.box 1 0],oB 246 [.row 2,.pv (.bool a0.f_form),.pv (.bool a0.f_deep),.pv (.int .i64 a0.f_blocks),.pv (.int .i64 a0.f_parens)],oR false 9 1 (List.map z09 a0.f_out),oB 152 (bs (z0o a1))] (z57 r) (z58 a1 r)) (ih_ast_writer_deeper_ast_writer_kid_1:∀ (a0:z02) (a1011:z06) (r:z02),z11 n a0 a1011=some r→Cs Tryz.prog (GX X) 199 [xP 0 0,.fn (.func 217) [] [.box 2 0,.box 3 0]] [oB 246 [.row 1,.pv (.bool a0.f_form),.pv (.bool a0.f_deep),.pv (.int .i64 a0.f_blocks),.pv (.int .i64 a0.f_parens)],oR false 9 1 (List.map z09 a0.f_out),oB 244 [.box 0 0],oB 152 (bs (z0o a1011))] (z1w r) (z1x a1011 r)) (ih_ast_writer_kid_1:∀ (a0:z02) (a1:z06) (r:z02),z3q n a0 a1=some r→Cs Tryz.prog (GX X) 217 [xP 0 0,xP 3 0] [oB 244 [.box 1 0],oB 246 [.row 2,.pv (.bool a0.f_form),.pv (.bool a0.f_deep),.pv (.int .i64 a0.f_blocks),.pv (.int .i64 a0.f_parens)],oR false 9 1 (List.map z09 a0.f_out),oB 152 (bs (z0o a1))] (z5g r) (z5h a1 r)) (a0:z02) (a1011:z06) (r:z02) (h:z11 (n+1) a0 a1011=some r):Cs Tryz.prog (GX X) 199 [xP 0 0,.fn (.func 217) [] [.box 2 0,.box 3 0]] [oB 246 [.row 1,.pv (.bool a0.f_form),.pv (.bool a0.f_deep),.pv (.int .i64 a0.f_blocks),.pv (.int .i64 a0.f_parens)],oR false 9 1 (List.map z09 a0.f_out),oB 244 [.box 0 0],oB 152 (bs (z0o a1011))] (z1w r) (z1x a1011 r):=by
 refine fnT (cx:=cx X) Tryz.f199 Tryz.call199 Tryz.func199 (by kernel_rfl) ?_
 rw [z11] at h
 refine adv (ok X) 3 [] pT (by kernel_rfl) ?_
 refine jn (ok X) 1 (fun (j1:Bool)=>⟨34,4,[(0,[xP 0 0]),(1,[.fn (.func 217) [] [.box 2 0,.box 3 0]])],[oB 246 [.row 1,.pv (.bool a0.f_form),.pv (.bool j1),.pv (.int .i64 a0.f_blocks),.pv (.int .i64 (IntKind.i64.wrap (a0.f_parens+1)))],oR false 9 1 (List.map z09 a0.f_out),oB 244 [.box 0 0],oB 152 (bs (z0o a1011))]⟩) h (fun j1 h=>?_) (fun j1 h=>?_)
 ·rcases iteE h with ⟨k1,h⟩|⟨k1,h⟩
  ·obtain rfl:=retE h
   exact fin (ok X) 1 (bT 6 []) (pR 6 k1 pT) (by kernel_rfl)
  ·obtain rfl:=retE h
   exact fin (ok X) 1 (bF 6 []) (pR 6 k1 pT) (by kernel_rfl)
 ·obtain ⟨v1,k2,h⟩:=z07 h
  obtain rfl:=retE h
  exact fin (ok X) 3 [.s (z5g v1) (z5h a1011 v1)] (pA (ih_ast_writer_kid_1 _ _ _ k2) pT) (by kernel_rfl)
theorem zku {n:Nat} (ih_ast_writer_expr:∀ (a0:z02) (a1:z06) (r:z02),z2e n a0 a1=some r→Cs Tryz.prog (GX X) 182 [xP 0 0,.agg (bs (z0o a1))] [oB 246 [.row 1,.pv (.bool a0.f_form),.pv (.bool a0.f_deep),.pv (.int .i64 a0.f_blocks),.pv (.int .i64 a0.f_parens)],oR false 9 1 (List.map z09 a0.f_out)] (z34 r) (z35 r)) (ih_ast_writer_deeper_ast_writer_expr_1:∀ (a0:z02) (a1011:z06) (r:z02),z10 n a0 a1011=some r→Cs Tryz.prog (GX X) 199 [xP 0 0,.fn (.func 200) [] [.box 2 0,.box 3 0]] [oB 246 [.row 1,.pv (.bool a0.f_form),.pv (.bool a0.f_deep),.pv (.int .i64 a0.f_blocks),.pv (.int .i64 a0.f_parens)],oR false 9 1 (List.map z09 a0.f_out),oB 244 [.box 0 0],oB 152 (bs (z0o a1011))] (z1s r) (z1t a1011 r)) (ih_ast_writer_kid:∀ (a0:z02) (a1:z06) (a2:Bool) (r:z02),z2g n a0 a1 a2=some r→Cs Tryz.prog (GX X) 201 [xP 0 0,.agg (bs (z0o a1)),xB a2] [oB 246 [.row 1,.pv (.bool a0.f_form),.pv (.bool a0.f_deep),.pv (.int .i64 a0.f_blocks),.pv (.int .i64 a0.f_parens)],oR false 9 1 (List.map z09 a0.f_out)] (z48 r) (z49 r)) (ih_ast_writer_expr_1:∀ (a0:z02) (a1:z06) (r:z02),z3f n a0 a1=some r→Cs Tryz.prog (GX X) 200 [xP 0 0,xP 3 0] [oB 244 [.box 1 0],oB 246 [.row 2,.pv (.bool a0.f_form),.pv (.bool a0.f_deep),.pv (.int .i64 a0.f_blocks),.pv (.int .i64 a0.f_parens)],oR false 9 1 (List.map z09 a0.f_out),oB 152 (bs (z0o a1))] (z57 r) (z58 a1 r)) (ih_ast_writer_deeper_ast_writer_kid_1:∀ (a0:z02) (a1011:z06) (r:z02),z11 n a0 a1011=some r→Cs Tryz.prog (GX X) 199 [xP 0 0,.fn (.func 217) [] [.box 2 0,.box 3 0]] [oB 246 [.row 1,.pv (.bool a0.f_form),.pv (.bool a0.f_deep),.pv (.int .i64 a0.f_blocks),.pv (.int .i64 a0.f_parens)],oR false 9 1 (List.map z09 a0.f_out),oB 244 [.box 0 0],oB 152 (bs (z0o a1011))] (z1w r) (z1x a1011 r)) (ih_ast_writer_kid_1:∀ (a0:z02) (a1:z06) (r:z02),z3q n a0 a1=some r→Cs Tryz.prog (GX X) 217 [xP 0 0,xP 3 0] [oB 244 [.box 1 0],oB 246 [.row 2,.pv (.bool a0.f_form),.pv (.bool a0.f_deep),.pv (.int .i64 a0.f_blocks),.pv (.int .i64 a0.f_parens)],oR false 9 1 (List.map z09 a0.f_out),oB 152 (bs (z0o a1))] (z5g r) (z5h a1 r)) (a0:z02) (a1:z06) (r:z02) (h:z3q (n+1) a0 a1=some r):Cs Tryz.prog (GX X) 217 [xP 0 0,xP 3 0] [oB 244 [.box 1 0],oB 246 [.row 2,.pv (.bool a0.f_form),.pv (.bool a0.f_deep),.pv (.int .i64 a0.f_blocks),.pv (.int .i64 a0.f_parens)],oR false 9 1 (List.map z09 a0.f_out),oB 152 (bs (z0o a1))] (z5g r) (z5h a1 r):=by
 refine fnT (cx:=cx X) Tryz.f217 Tryz.call217 Tryz.func217 (by kernel_rfl) ?_
 rw [z3q] at h
 obtain ⟨v1,k1,h⟩:=z07 h
 obtain rfl:=retE h
 exact fin (ok X) 1 [.s (z34 v1) (z35 v1)] (pA (ih_ast_writer_expr _ _ _ k1) pT) (by kernel_rfl)
theorem zey:∀ n:Nat,(∀ (a0:z02) (a1:z06) (r:z02),z2e n a0 a1=some r→Cs Tryz.prog (GX X) 182 [xP 0 0,.agg (bs (z0o a1))] [oB 246 [.row 1,.pv (.bool a0.f_form),.pv (.bool a0.f_deep),.pv (.int .i64 a0.f_blocks),.pv (.int .i64 a0.f_parens)],oR false 9 1 (List.map z09 a0.f_out)] (z34 r) (z35 r))∧(∀ (a0:z02) (a1011:z06) (r:z02),z10 n a0 a1011=some r→Cs Tryz.prog (GX X) 199 [xP 0 0,.fn (.func 200) [] [.box 2 0,.box 3 0]] [oB 246 [.row 1,.pv (.bool a0.f_form),.pv (.bool a0.f_deep),.pv (.int .i64 a0.f_blocks),.pv (.int .i64 a0.f_parens)],oR false 9 1 (List.map z09 a0.f_out),oB 244 [.box 0 0],oB 152 (bs (z0o a1011))] (z1s r) (z1t a1011 r))∧(∀ (a0:z02) (a1:z06) (a2:Bool) (r:z02),z2g n a0 a1 a2=some r→Cs Tryz.prog (GX X) 201 [xP 0 0,.agg (bs (z0o a1)),xB a2] [oB 246 [.row 1,.pv (.bool a0.f_form),.pv (.bool a0.f_deep),.pv (.int .i64 a0.f_blocks),.pv (.int .i64 a0.f_parens)],oR false 9 1 (List.map z09 a0.f_out)] (z48 r) (z49 r))∧(∀ (a0:z02) (a1:z06) (r:z02),z3f n a0 a1=some r→Cs Tryz.prog (GX X) 200 [xP 0 0,xP 3 0] [oB 244 [.box 1 0],oB 246 [.row 2,.pv (.bool a0.f_form),.pv (.bool a0.f_deep),.pv (.int .i64 a0.f_blocks),.pv (.int .i64 a0.f_parens)],oR false 9 1 (List.map z09 a0.f_out),oB 152 (bs (z0o a1))] (z57 r) (z58 a1 r))∧(∀ (a0:z02) (a1011:z06) (r:z02),z11 n a0 a1011=some r→Cs Tryz.prog (GX X) 199 [xP 0 0,.fn (.func 217) [] [.box 2 0,.box 3 0]] [oB 246 [.row 1,.pv (.bool a0.f_form),.pv (.bool a0.f_deep),.pv (.int .i64 a0.f_blocks),.pv (.int .i64 a0.f_parens)],oR false 9 1 (List.map z09 a0.f_out),oB 244 [.box 0 0],oB 152 (bs (z0o a1011))] (z1w r) (z1x a1011 r))∧(∀ (a0:z02) (a1:z06) (r:z02),z3q n a0 a1=some r→Cs Tryz.prog (GX X) 217 [xP 0 0,xP 3 0] [oB 244 [.box 1 0],oB 246 [.row 2,.pv (.bool a0.f_form),.pv (.bool a0.f_deep),.pv (.int .i64 a0.f_blocks),.pv (.int .i64 a0.f_parens)],oR false 9 1 (List.map z09 a0.f_out),oB 152 (bs (z0o a1))] (z5g r) (z5h a1 r))
 | 0=>⟨(fun _ _ _ h=>by rw [z2e] at h;cases h),(fun _ _ _ h=>by rw [z10] at h;cases h),(fun _ _ _ _ h=>by rw [z2g] at h;cases h),(fun _ _ _ h=>by rw [z3f] at h;cases h),(fun _ _ _ h=>by rw [z11] at h;cases h),(fun _ _ _ h=>by rw [z3q] at h;cases h)⟩
 | n+1=>by
  have ih:=zey n
  exact ⟨zm6 ih.1 ih.2.1 ih.2.2.1 ih.2.2.2.1 ih.2.2.2.2.1 ih.2.2.2.2.2,zbb ih.1 ih.2.1 ih.2.2.1 ih.2.2.2.1 ih.2.2.2.2.1 ih.2.2.2.2.2,zmu ih.1 ih.2.1 ih.2.2.1 ih.2.2.2.1 ih.2.2.2.2.1 ih.2.2.2.2.2,zjs ih.1 ih.2.1 ih.2.2.1 ih.2.2.2.1 ih.2.2.2.2.1 ih.2.2.2.2.2,zbf ih.1 ih.2.1 ih.2.2.1 ih.2.2.2.1 ih.2.2.2.2.1 ih.2.2.2.2.2,zku ih.1 ih.2.1 ih.2.2.1 ih.2.2.2.1 ih.2.2.2.2.1 ih.2.2.2.2.2⟩
theorem z9i {a0:z02} {a1:z06} {r:z02} (h:z88 a0 a1=some r):Cs Tryz.prog (GX X) 182 [xP 0 0,.agg (bs (z0o a1))] [oB 246 [.row 1,.pv (.bool a0.f_form),.pv (.bool a0.f_deep),.pv (.int .i64 a0.f_blocks),.pv (.int .i64 a0.f_parens)],oR false 9 1 (List.map z09 a0.f_out)] (z34 r) (z35 r):=by
 obtain ⟨n,hn⟩:=unfE h
 exact (zey n).1 _ _ _ hn
theorem zd8 {a0:z02} {a1:z4j} {r:z02} (h:z89 a0 a1=some r):Cs Tryz.prog (GX X) 183 [xP 0 0,.agg (bs (zg8 a1))] [oB 246 [.row 1,.pv (.bool a0.f_form),.pv (.bool a0.f_deep),.pv (.int .i64 a0.f_blocks),.pv (.int .i64 a0.f_parens)],oR false 9 1 (List.map z09 a0.f_out)] (zav r) (zaw r):=by
 refine fnT (cx:=cx X) Tryz.f183 Tryz.call183 Tryz.func183 (by kernel_rfl) ?_
 unfold z89 at h
 obtain ⟨v1,k1,h⟩:=z07 h
 obtain ⟨v2,k2,h⟩:=z07 h
 refine adv (ok X) 8 [.s (z0j v1) (z0k v1),.s (z34 v2) (z35 v2)] (pA (z0l (X:=X) k1) (pA (z9i (X:=X) k2) pT)) (by kernel_rfl) ?_
 refine jn (ok X) 1 (fun (j1:Bool)=>⟨36,2,[(0,[xP 0 0]),(3,[xP 2 0]),(18,[xB j1])],[oB 246 [.row 1,.pv (.bool v2.f_form),.pv (.bool v2.f_deep),.pv (.int .i64 v2.f_blocks),.pv (.int .i64 v2.f_parens)],oR true 9 1 (List.map z09 v2.f_out),oB 154 (bs (zg8 a1))]⟩) h (fun j1 h=>?_) (fun j1 h=>?_)
 ·rcases iteE h with ⟨k3,h⟩|⟨k3,h⟩
  ·obtain rfl:=retE h
   exact fin (ok X) 1 (bT 4 []) (pR 4 k3 pT) (by kernel_rfl)
  ·obtain rfl:=retE h
   exact fin (ok X) 1 (bF 4 []) (pR 4 k3 pT) (by kernel_rfl)
 ·rcases iteE h with ⟨k4,h⟩|⟨k4,h⟩
  ·obtain ⟨v3,k5,h⟩:=z07 h
   obtain ⟨v4,k6,h⟩:=z07 h
   obtain ⟨v5,k7,h⟩:=z07 h
   obtain rfl:=retE h
   exact fin (ok X) 5 [.b true,.s (z3h v3) (z3i v3),.s (z34 v4) (z35 v4),.s (z0j v5) (z0k v5)] (pA k4 (pA (z3s (X:=X) k5) (pA (z9i (X:=X) k6) (pA (z0l (X:=X) k7) pT)))) (by kernel_rfl)
  ·obtain ⟨v6,k8,h⟩:=z07 h
   obtain ⟨v7,k9,h⟩:=z07 h
   obtain ⟨v8,k10,h⟩:=z07 h
   obtain ⟨v9,k11,h⟩:=z07 h
   obtain rfl:=retE h
   exact fin (ok X) 5 [.b false,.e [.str v6],.s (z0j v7) (z0k v7),.s (z34 v8) (z35 v8),.s (z0j v9) (z0k v9)] (pA k4 (pA (ixm z09 k8) (pA (z0l (X:=X) k9) (pA (z9i (X:=X) k10) (pA (z0l (X:=X) k11) pT))))) (by kernel_rfl)
theorem zkv {n:Nat} (ih_ast_writer_stmts:∀ (a0:z02) (a1:(List z05)) (r:z02),z2f n a0 a1=some r→Cs Tryz.prog (GX X) 143 [xP 0 0,xL (List.map z1e a1)] [oB 246 [.row 1,.pv (.bool a0.f_form),.pv (.bool a0.f_deep),.pv (.int .i64 a0.f_blocks),.pv (.int .i64 a0.f_parens)],oR false 9 1 (List.map z09 a0.f_out)] (z4y r) (z4z r)) (ih_ast_writer_stmt:∀ (a0:z02) (a1:z05) (r:z02),z2n n a0 a1=some r→Cs Tryz.prog (GX X) 163 [xP 0 0,.agg (bs (z47 a1))] [oB 246 [.row 1,.pv (.bool a0.f_form),.pv (.bool a0.f_deep),.pv (.int .i64 a0.f_blocks),.pv (.int .i64 a0.f_parens)],oR false 9 1 (List.map z09 a0.f_out)] (z74 r) (z76 r)) (ih_ast_writer_block:∀ (a0:z02) (a1:(List z05)) (r:z02),z24 n a0 a1=some r→Cs Tryz.prog (GX X) 184 [xP 0 0,xL (List.map z1e a1)] [oB 246 [.row 1,.pv (.bool a0.f_form),.pv (.bool a0.f_deep),.pv (.int .i64 a0.f_blocks),.pv (.int .i64 a0.f_parens)],oR false 9 1 (List.map z09 a0.f_out)] (z50 r) (z52 r)) (ih_ast_writer_arms:∀ (a0:z02) (a1:(List z1r)) (r:z02),z30 n a0 a1=some r→Cs Tryz.prog (GX X) 185 [xP 0 0,xL (List.map z3l a1)] [oB 246 [.row 1,.pv (.bool a0.f_form),.pv (.bool a0.f_deep),.pv (.int .i64 a0.f_blocks),.pv (.int .i64 a0.f_parens)],oR false 9 1 (List.map z09 a0.f_out)] (z6c r) (z6d r)) (a0:z02) (a1:(List z05)) (r:z02) (h:z2f (n+1) a0 a1=some r):Cs Tryz.prog (GX X) 143 [xP 0 0,xL (List.map z1e a1)] [oB 246 [.row 1,.pv (.bool a0.f_form),.pv (.bool a0.f_deep),.pv (.int .i64 a0.f_blocks),.pv (.int .i64 a0.f_parens)],oR false 9 1 (List.map z09 a0.f_out)] (z4y r) (z4z r):=by
 refine fnT (cx:=cx X) Tryz.f143 Tryz.call143 Tryz.func143 (by kernel_rfl) ?_
 rw [z2f] at h
 refine adv (ok X) 2 [.i (a1.length:Int)] (pA (lm z1e a1) pT) (by kernel_rfl) ?_
 refine lp (ok X) (z68 (z2f n) (z2n n) (z24 n) (z30 n) a1) (fun (x1:(Int × Bool × Bool × Int × Int × (List ByteArray)))=>⟨16,2,[(0,[xP 0 0]),(6,[xL (List.map z1e a1)]),(7,[xI (a1.length:Int)]),(8,[xI x1.1])],[oB 246 [.row 1,.pv (.bool x1.2.1),.pv (.bool x1.2.2.1),.pv (.int .i64 x1.2.2.2.1),.pv (.int .i64 x1.2.2.2.2.1)],oR true 9 1 (List.map z09 x1.2.2.2.2.2)]⟩) (fun (j1:(Bool × Bool × Int × Int × (List ByteArray)))=>⟨16,2,[],[oB 246 [.row 1,.pv (.bool j1.1),.pv (.bool j1.2.1),.pv (.int .i64 j1.2.2.1),.pv (.int .i64 j1.2.2.2.1)],oR true 9 1 (List.map z09 j1.2.2.2.2)]⟩) zkj (0,a0.f_form,a0.f_deep,a0.f_blocks,a0.f_parens,a0.f_out) (fun _=>⟨_,_,_,_,rfl⟩) h (by kernel_rfl) (fun x1 o h=>?_) (fun r' h=>?_) (fun j1 h=>?_)
 ·unfold z68 at h
  rcases iteE h with ⟨k1,h⟩|⟨k1,h⟩
  ·obtain ⟨v1,k2,h⟩:=z07 h
   obtain ⟨v2,k3,h⟩:=z07 h
   obtain rfl:=retE h
   exact fin (ok X) 12 [.b true,.e (z47 v1),.s (z74 v2) (z76 v2)] (pA k1 (pA (ixr zch k2) (pA (ih_ast_writer_stmt _ _ _ k3) pT))) (by kernel_rfl)
  ·obtain rfl:=retE h
   exact fin (ok X) 5 [.b false] (pA k1 pT) (by kernel_rfl)
 ·cases h
 ·obtain rfl:=retE h
  exact fin (ok X) 0 [] pT (by kernel_rfl)
theorem zm7 {n:Nat} (ih_ast_writer_stmts:∀ (a0:z02) (a1:(List z05)) (r:z02),z2f n a0 a1=some r→Cs Tryz.prog (GX X) 143 [xP 0 0,xL (List.map z1e a1)] [oB 246 [.row 1,.pv (.bool a0.f_form),.pv (.bool a0.f_deep),.pv (.int .i64 a0.f_blocks),.pv (.int .i64 a0.f_parens)],oR false 9 1 (List.map z09 a0.f_out)] (z4y r) (z4z r)) (ih_ast_writer_stmt:∀ (a0:z02) (a1:z05) (r:z02),z2n n a0 a1=some r→Cs Tryz.prog (GX X) 163 [xP 0 0,.agg (bs (z47 a1))] [oB 246 [.row 1,.pv (.bool a0.f_form),.pv (.bool a0.f_deep),.pv (.int .i64 a0.f_blocks),.pv (.int .i64 a0.f_parens)],oR false 9 1 (List.map z09 a0.f_out)] (z74 r) (z76 r)) (ih_ast_writer_block:∀ (a0:z02) (a1:(List z05)) (r:z02),z24 n a0 a1=some r→Cs Tryz.prog (GX X) 184 [xP 0 0,xL (List.map z1e a1)] [oB 246 [.row 1,.pv (.bool a0.f_form),.pv (.bool a0.f_deep),.pv (.int .i64 a0.f_blocks),.pv (.int .i64 a0.f_parens)],oR false 9 1 (List.map z09 a0.f_out)] (z50 r) (z52 r)) (ih_ast_writer_arms:∀ (a0:z02) (a1:(List z1r)) (r:z02),z30 n a0 a1=some r→Cs Tryz.prog (GX X) 185 [xP 0 0,xL (List.map z3l a1)] [oB 246 [.row 1,.pv (.bool a0.f_form),.pv (.bool a0.f_deep),.pv (.int .i64 a0.f_blocks),.pv (.int .i64 a0.f_parens)],oR false 9 1 (List.map z09 a0.f_out)] (z6c r) (z6d r)) (a0:z02) (a1:z05) (r:z02) (h:z2n (n+1) a0 a1=some r):Cs Tryz.prog (GX X) 163 [xP 0 0,.agg (bs (z47 a1))] [oB 246 [.row 1,.pv (.bool a0.f_form),.pv (.bool a0.f_deep),.pv (.int .i64 a0.f_blocks),.pv (.int .i64 a0.f_parens)],oR false 9 1 (List.map z09 a0.f_out)] (z74 r) (z76 r):=by
 refine fnT (cx:=cx X) Tryz.f163 Tryz.call163 Tryz.func163 (by kernel_rfl) ?_
 rw [z2n] at h
 rcases iteE h with ⟨k1,h⟩|⟨k1,h⟩
 ·obtain ⟨v1,k2,h⟩:=z07 h
  obtain ⟨v2,k3,h⟩:=z07 h
  obtain ⟨v3,k4,h⟩:=z07 h
  obtain ⟨v4,k5,h⟩:=z07 h
  obtain rfl:=retE h
  exact fin (ok X) 16 [.b true,.s (z22 v1) (z23 v1),.s (z0j v2) (z0k v2),.s (z34 v3) (z35 v3),.s (z0j v4) (z0k v4)] (pA k1 (pA (z28 (X:=X) k2) (pA (z0l (X:=X) k3) (pA (z9i (X:=X) k4) (pA (z0l (X:=X) k5) pT))))) (by kernel_rfl)
 ·refine adv (ok X) 10 [.b false] (pA k1 pT) (by kernel_rfl) ?_
  rcases iteE h with ⟨k6,h⟩|⟨k6,h⟩
  ·obtain ⟨v5,k7,h⟩:=z07 h
   obtain ⟨v6,k8,h⟩:=z07 h
   obtain ⟨v7,k9,h⟩:=z07 h
   refine adv (ok X) 9 [.b true,.s (z0j v5) (z0k v5),.s (zav v6) (zaw v6),.s (z50 v7) (z52 v7),.i (a1.Else.length:Int)] (pA k6 (pA (z0l (X:=X) k7) (pA (zd8 (X:=X) k8) (pA (ih_ast_writer_block _ _ _ k9) (pA (lm z1e a1.Else) pT))))) (by kernel_rfl) ?_
   rcases iteE h with ⟨k10,h⟩|⟨k10,h⟩
   ·obtain ⟨v8,k11,h⟩:=z07 h
    obtain ⟨v9,k12,h⟩:=z07 h
    obtain rfl:=retE h
    exact fin (ok X) 5 [.b true,.s (z0j v8) (z0k v8),.s (z50 v9) (z52 v9)] (pA k10 (pA (z0l (X:=X) k11) (pA (ih_ast_writer_block _ _ _ k12) pT))) (by kernel_rfl)
   ·obtain rfl:=retE h
    exact fin (ok X) 3 [.b false] (pA k10 pT) (by kernel_rfl)
  ·refine adv (ok X) 3 [.b false] (pA k6 pT) (by kernel_rfl) ?_
   rcases iteE h with ⟨k13,h⟩|⟨k13,h⟩
   ·obtain ⟨v10,k14,h⟩:=z07 h
    obtain ⟨v11,k15,h⟩:=z07 h
    obtain ⟨v12,k16,h⟩:=z07 h
    obtain rfl:=retE h
    exact fin (ok X) 7 [.b true,.s (z0j v10) (z0k v10),.s (zav v11) (zaw v11),.s (z50 v12) (z52 v12)] (pA k13 (pA (z0l (X:=X) k14) (pA (zd8 (X:=X) k15) (pA (ih_ast_writer_block _ _ _ k16) pT)))) (by kernel_rfl)
   ·refine adv (ok X) 3 [.b false] (pA k13 pT) (by kernel_rfl) ?_
    rcases iteE h with ⟨k17,h⟩|⟨k17,h⟩
    ·obtain ⟨v13,k18,h⟩:=z07 h
     obtain ⟨v14,k19,h⟩:=z07 h
     obtain ⟨v15,k20,h⟩:=z07 h
     obtain ⟨v16,k21,h⟩:=z07 h
     obtain ⟨v17,k22,h⟩:=z07 h
     obtain ⟨v18,k23,h⟩:=z07 h
     obtain ⟨v19,k24,h⟩:=z07 h
     obtain rfl:=retE h
     exact fin (ok X) 15 [.b true,.s (z0j v13) (z0k v13),.s (z22 v14) (z23 v14),.s (z0j v15) (z0k v15),.s (z22 v16) (z23 v16),.s (z0j v17) (z0k v17),.s (z34 v18) (z35 v18),.s (z0j v19) (z0k v19)] (pA k17 (pA (z0l (X:=X) k18) (pA (z28 (X:=X) k19) (pA (z0l (X:=X) k20) (pA (z28 (X:=X) k21) (pA (z0l (X:=X) k22) (pA (z9i (X:=X) k23) (pA (z0l (X:=X) k24) pT)))))))) (by kernel_rfl)
    ·refine adv (ok X) 3 [.b false] (pA k17 pT) (by kernel_rfl) ?_
     rcases iteE h with ⟨k25,h⟩|⟨k25,h⟩
     ·obtain ⟨v20,k26,h⟩:=z07 h
      obtain ⟨v21,k27,h⟩:=z07 h
      obtain ⟨v22,k28,h⟩:=z07 h
      obtain rfl:=retE h
      exact fin (ok X) 7 [.b true,.s (z0j v20) (z0k v20),.s (z22 v21) (z23 v21),.s (z6c v22) (z6d v22)] (pA k25 (pA (z0l (X:=X) k26) (pA (z28 (X:=X) k27) (pA (ih_ast_writer_arms _ _ _ k28) pT)))) (by kernel_rfl)
     ·refine adv (ok X) 3 [.b false] (pA k25 pT) (by kernel_rfl) ?_
      rcases iteE h with ⟨k29,h⟩|⟨k29,h⟩
      ·obtain ⟨v23,k30,h⟩:=z07 h
       obtain ⟨v24,k31,h⟩:=z07 h
       obtain ⟨v25,k32,h⟩:=z07 h
       obtain rfl:=retE h
       exact fin (ok X) 7 [.b true,.s (z0j v23) (z0k v23),.s (zav v24) (zaw v24),.s (z0j v25) (z0k v25)] (pA k29 (pA (z0l (X:=X) k30) (pA (zd8 (X:=X) k31) (pA (z0l (X:=X) k32) pT)))) (by kernel_rfl)
      ·refine adv (ok X) 3 [.b false] (pA k29 pT) (by kernel_rfl) ?_
       rcases iteE h with ⟨k33,h⟩|⟨k33,h⟩
       ·obtain ⟨v26,k34,h⟩:=z07 h
        obtain ⟨v27,k35,h⟩:=z07 h
        obtain ⟨v28,k36,h⟩:=z07 h
        obtain rfl:=retE h
        exact fin (ok X) 7 [.b true,.s (z0j v26) (z0k v26),.s (z22 v27) (z23 v27),.s (z0j v28) (z0k v28)] (pA k33 (pA (z0l (X:=X) k34) (pA (z28 (X:=X) k35) (pA (z0l (X:=X) k36) pT)))) (by kernel_rfl)
       ·obtain ⟨v29,k37,h⟩:=z07 h
        obtain rfl:=retE h
        exact fin (ok X) 3 [.b false,.s (z3h v29) (z3i v29)] (pA k33 (pA (z3s (X:=X) k37) pT)) (by kernel_rfl)
theorem zkw {n:Nat} (ih_ast_writer_stmts:∀ (a0:z02) (a1:(List z05)) (r:z02),z2f n a0 a1=some r→Cs Tryz.prog (GX X) 143 [xP 0 0,xL (List.map z1e a1)] [oB 246 [.row 1,.pv (.bool a0.f_form),.pv (.bool a0.f_deep),.pv (.int .i64 a0.f_blocks),.pv (.int .i64 a0.f_parens)],oR false 9 1 (List.map z09 a0.f_out)] (z4y r) (z4z r)) (ih_ast_writer_stmt:∀ (a0:z02) (a1:z05) (r:z02),z2n n a0 a1=some r→Cs Tryz.prog (GX X) 163 [xP 0 0,.agg (bs (z47 a1))] [oB 246 [.row 1,.pv (.bool a0.f_form),.pv (.bool a0.f_deep),.pv (.int .i64 a0.f_blocks),.pv (.int .i64 a0.f_parens)],oR false 9 1 (List.map z09 a0.f_out)] (z74 r) (z76 r)) (ih_ast_writer_block:∀ (a0:z02) (a1:(List z05)) (r:z02),z24 n a0 a1=some r→Cs Tryz.prog (GX X) 184 [xP 0 0,xL (List.map z1e a1)] [oB 246 [.row 1,.pv (.bool a0.f_form),.pv (.bool a0.f_deep),.pv (.int .i64 a0.f_blocks),.pv (.int .i64 a0.f_parens)],oR false 9 1 (List.map z09 a0.f_out)] (z50 r) (z52 r)) (ih_ast_writer_arms:∀ (a0:z02) (a1:(List z1r)) (r:z02),z30 n a0 a1=some r→Cs Tryz.prog (GX X) 185 [xP 0 0,xL (List.map z3l a1)] [oB 246 [.row 1,.pv (.bool a0.f_form),.pv (.bool a0.f_deep),.pv (.int .i64 a0.f_blocks),.pv (.int .i64 a0.f_parens)],oR false 9 1 (List.map z09 a0.f_out)] (z6c r) (z6d r)) (a0:z02) (a1:(List z05)) (r:z02) (h:z24 (n+1) a0 a1=some r):Cs Tryz.prog (GX X) 184 [xP 0 0,xL (List.map z1e a1)] [oB 246 [.row 1,.pv (.bool a0.f_form),.pv (.bool a0.f_deep),.pv (.int .i64 a0.f_blocks),.pv (.int .i64 a0.f_parens)],oR false 9 1 (List.map z09 a0.f_out)] (z50 r) (z52 r):=by
 refine fnT (cx:=cx X) Tryz.f184 Tryz.call184 Tryz.func184 (by kernel_rfl) ?_
 rw [z24] at h
 obtain ⟨v1,k1,h⟩:=z07 h
 refine adv (ok X) 5 [.s (z0j v1) (z0k v1)] (pA (z0l (X:=X) k1) pT) (by kernel_rfl) ?_
 refine jn (ok X) 1 (fun (j1:Bool)=>⟨41,2,[(0,[xP 0 0]),(1,[xL (List.map z1e a1)])],[oB 246 [.row 1,.pv (.bool v1.f_form),.pv (.bool j1),.pv (.int .i64 (IntKind.i64.wrap (v1.f_blocks+1))),.pv (.int .i64 v1.f_parens)],oR true 9 1 (List.map z09 v1.f_out)]⟩) h (fun j1 h=>?_) (fun j1 h=>?_)
 ·rcases iteE h with ⟨k2,h⟩|⟨k2,h⟩
  ·obtain rfl:=retE h
   exact fin (ok X) 1 (bT 6 []) (pR 6 k2 pT) (by kernel_rfl)
  ·obtain rfl:=retE h
   exact fin (ok X) 1 (bF 6 []) (pR 6 k2 pT) (by kernel_rfl)
 ·obtain ⟨v2,k3,h⟩:=z07 h
  obtain ⟨v3,k4,h⟩:=z07 h
  obtain rfl:=retE h
  exact fin (ok X) 5 [.s (z4y v2) (z4z v2),.s (z0j v3) (z0k v3)] (pA (ih_ast_writer_stmts _ _ _ k3) (pA (z0l (X:=X) k4) pT)) (by kernel_rfl)
theorem zm8 {n:Nat} (ih_ast_writer_stmts:∀ (a0:z02) (a1:(List z05)) (r:z02),z2f n a0 a1=some r→Cs Tryz.prog (GX X) 143 [xP 0 0,xL (List.map z1e a1)] [oB 246 [.row 1,.pv (.bool a0.f_form),.pv (.bool a0.f_deep),.pv (.int .i64 a0.f_blocks),.pv (.int .i64 a0.f_parens)],oR false 9 1 (List.map z09 a0.f_out)] (z4y r) (z4z r)) (ih_ast_writer_stmt:∀ (a0:z02) (a1:z05) (r:z02),z2n n a0 a1=some r→Cs Tryz.prog (GX X) 163 [xP 0 0,.agg (bs (z47 a1))] [oB 246 [.row 1,.pv (.bool a0.f_form),.pv (.bool a0.f_deep),.pv (.int .i64 a0.f_blocks),.pv (.int .i64 a0.f_parens)],oR false 9 1 (List.map z09 a0.f_out)] (z74 r) (z76 r)) (ih_ast_writer_block:∀ (a0:z02) (a1:(List z05)) (r:z02),z24 n a0 a1=some r→Cs Tryz.prog (GX X) 184 [xP 0 0,xL (List.map z1e a1)] [oB 246 [.row 1,.pv (.bool a0.f_form),.pv (.bool a0.f_deep),.pv (.int .i64 a0.f_blocks),.pv (.int .i64 a0.f_parens)],oR false 9 1 (List.map z09 a0.f_out)] (z50 r) (z52 r)) (ih_ast_writer_arms:∀ (a0:z02) (a1:(List z1r)) (r:z02),z30 n a0 a1=some r→Cs Tryz.prog (GX X) 185 [xP 0 0,xL (List.map z3l a1)] [oB 246 [.row 1,.pv (.bool a0.f_form),.pv (.bool a0.f_deep),.pv (.int .i64 a0.f_blocks),.pv (.int .i64 a0.f_parens)],oR false 9 1 (List.map z09 a0.f_out)] (z6c r) (z6d r)) (a0:z02) (a1:(List z1r)) (r:z02) (h:z30 (n+1) a0 a1=some r):Cs Tryz.prog (GX X) 185 [xP 0 0,xL (List.map z3l a1)] [oB 246 [.row 1,.pv (.bool a0.f_form),.pv (.bool a0.f_deep),.pv (.int .i64 a0.f_blocks),.pv (.int .i64 a0.f_parens)],oR false 9 1 (List.map z09 a0.f_out)] (z6c r) (z6d r):=by
 refine fnT (cx:=cx X) Tryz.f185 Tryz.call185 Tryz.func185 (by kernel_rfl) ?_
 rw [z30] at h
 obtain ⟨v1,k1,h⟩:=z07 h
 obtain ⟨v2,k2,h⟩:=z07 h
 refine adv (ok X) 7 [.i (a1.length:Int),.s (z3h v1) (z3i v1),.s (z0j v2) (z0k v2),.i (a1.length:Int)] (pA (lm z3l a1) (pA (z3s (X:=X) k1) (pA (z0l (X:=X) k2) (pA (lm z3l a1) pT)))) (by kernel_rfl) ?_
 refine lp (ok X) (z6l (z2f n) (z2n n) (z24 n) (z30 n) a1) (fun (x1:(Int × Bool × Bool × Int × Int × (List ByteArray)))=>⟨42,2,[(0,[xP 0 0]),(14,[xL (List.map z3l a1)]),(15,[xI (a1.length:Int)]),(16,[xI x1.1])],[oB 246 [.row 1,.pv (.bool x1.2.1),.pv (.bool x1.2.2.1),.pv (.int .i64 x1.2.2.2.1),.pv (.int .i64 x1.2.2.2.2.1)],oR true 9 1 (List.map z09 x1.2.2.2.2.2)]⟩) (fun (j1:(Bool × Bool × Int × Int × (List ByteArray)))=>⟨42,2,[(0,[xP 0 0])],[oB 246 [.row 1,.pv (.bool j1.1),.pv (.bool j1.2.1),.pv (.int .i64 j1.2.2.1),.pv (.int .i64 j1.2.2.2.1)],oR true 9 1 (List.map z09 j1.2.2.2.2)]⟩) zlw (0,v2.f_form,v2.f_deep,v2.f_blocks,v2.f_parens,v2.f_out) (fun _=>⟨_,_,_,_,rfl⟩) h (by kernel_rfl) (fun x1 o h=>?_) (fun r' h=>?_) (fun j1 h=>?_)
 ·unfold z6l at h
  rcases iteE h with ⟨k3,h⟩|⟨k3,h⟩
  ·obtain ⟨v3,k4,h⟩:=z07 h
   obtain ⟨v4,k5,h⟩:=z07 h
   obtain ⟨v5,k6,h⟩:=z07 h
   obtain ⟨v6,k7,h⟩:=z07 h
   obtain ⟨v7,k8,h⟩:=z07 h
   obtain ⟨v8,k9,h⟩:=z07 h
   obtain rfl:=retE h
   exact fin (ok X) 20 [.b true,.e (znq v3),.s (z22 v4) (z23 v4),.s (z0j v5) (z0k v5),.s (z22 v6) (z23 v6),.s (z0j v7) (z0k v7),.s (z50 v8) (z52 v8)] (pA k3 (pA (ixr zc4 k4) (pA (z28 (X:=X) k5) (pA (z0l (X:=X) k6) (pA (z28 (X:=X) k7) (pA (z0l (X:=X) k8) (pA (ih_ast_writer_block _ _ _ k9) pT))))))) (by kernel_rfl)
  ·obtain rfl:=retE h
   exact fin (ok X) 5 [.b false] (pA k3 pT) (by kernel_rfl)
 ·cases h
 ·obtain ⟨v9,k10,h⟩:=z07 h
  obtain rfl:=retE h
  exact fin (ok X) 1 [.s (z0j v9) (z0k v9)] (pA (z0l (X:=X) k10) pT) (by kernel_rfl)
theorem ze3:∀ n:Nat,(∀ (a0:z02) (a1:(List z05)) (r:z02),z2f n a0 a1=some r→Cs Tryz.prog (GX X) 143 [xP 0 0,xL (List.map z1e a1)] [oB 246 [.row 1,.pv (.bool a0.f_form),.pv (.bool a0.f_deep),.pv (.int .i64 a0.f_blocks),.pv (.int .i64 a0.f_parens)],oR false 9 1 (List.map z09 a0.f_out)] (z4y r) (z4z r))∧(∀ (a0:z02) (a1:z05) (r:z02),z2n n a0 a1=some r→Cs Tryz.prog (GX X) 163 [xP 0 0,.agg (bs (z47 a1))] [oB 246 [.row 1,.pv (.bool a0.f_form),.pv (.bool a0.f_deep),.pv (.int .i64 a0.f_blocks),.pv (.int .i64 a0.f_parens)],oR false 9 1 (List.map z09 a0.f_out)] (z74 r) (z76 r))∧(∀ (a0:z02) (a1:(List z05)) (r:z02),z24 n a0 a1=some r→Cs Tryz.prog (GX X) 184 [xP 0 0,xL (List.map z1e a1)] [oB 246 [.row 1,.pv (.bool a0.f_form),.pv (.bool a0.f_deep),.pv (.int .i64 a0.f_blocks),.pv (.int .i64 a0.f_parens)],oR false 9 1 (List.map z09 a0.f_out)] (z50 r) (z52 r))∧(∀ (a0:z02) (a1:(List z1r)) (r:z02),z30 n a0 a1=some r→Cs Tryz.prog (GX X) 185 [xP 0 0,xL (List.map z3l a1)] [oB 246 [.row 1,.pv (.bool a0.f_form),.pv (.bool a0.f_deep),.pv (.int .i64 a0.f_blocks),.pv (.int .i64 a0.f_parens)],oR false 9 1 (List.map z09 a0.f_out)] (z6c r) (z6d r))
 | 0=>⟨(fun _ _ _ h=>by rw [z2f] at h;cases h),(fun _ _ _ h=>by rw [z2n] at h;cases h),(fun _ _ _ h=>by rw [z24] at h;cases h),(fun _ _ _ h=>by rw [z30] at h;cases h)⟩
 | n+1=>by
  have ih:=ze3 n
  exact ⟨zkv ih.1 ih.2.1 ih.2.2.1 ih.2.2.2,zm7 ih.1 ih.2.1 ih.2.2.1 ih.2.2.2,zkw ih.1 ih.2.1 ih.2.2.1 ih.2.2.2,zm8 ih.1 ih.2.1 ih.2.2.1 ih.2.2.2⟩
theorem zkx {a0:z02} {a1:(List z05)} {r:z02} (h:zbj a0 a1=some r):Cs Tryz.prog (GX X) 143 [xP 0 0,xL (List.map z1e a1)] [oB 246 [.row 1,.pv (.bool a0.f_form),.pv (.bool a0.f_deep),.pv (.int .i64 a0.f_blocks),.pv (.int .i64 a0.f_parens)],oR false 9 1 (List.map z09 a0.f_out)] (z4y r) (z4z r):=by
 obtain ⟨n,hn⟩:=unfE h
 exact (ze3 n).1 _ _ _ hn
theorem zm9 {a0:z02} {a1:z3k} {r:z02} (h:z9d a0 a1=some r):Cs Tryz.prog (GX X) 114 [xP 0 0,.agg (bs (z0d a1))] [oB 246 [.row 1,.pv (.bool a0.f_form),.pv (.bool a0.f_deep),.pv (.int .i64 a0.f_blocks),.pv (.int .i64 a0.f_parens)],oR false 9 1 (List.map z09 a0.f_out)] (zd4 r) (zd5 r):=by
 refine fnT (cx:=cx X) Tryz.f114 Tryz.call114 Tryz.func114 (by kernel_rfl) ?_
 unfold z9d at h
 obtain ⟨v1,k1,h⟩:=z07 h
 obtain ⟨v2,k2,h⟩:=z07 h
 obtain ⟨v3,k3,h⟩:=z07 h
 refine adv (ok X) 11 [.s (z0j v1) (z0k v1),.s (z22 v2) (z23 v2),.s (z0j v3) (z0k v3),.i (a1.Vars.length:Int)] (pA (z0l (X:=X) k1) (pA (z28 (X:=X) k2) (pA (z0l (X:=X) k3) (pA (lm z09 a1.Vars) pT)))) (by kernel_rfl) ?_
 refine lp (ok X) (z7n a1) (fun (x1:(Int × Bool × Bool × Int × Int × (List ByteArray)))=>⟨40,2,[(0,[xP 0 0]),(3,[xP 2 0]),(17,[xL (List.map z09 a1.Vars)]),(18,[xI (a1.Vars.length:Int)]),(19,[xI x1.1])],[oB 246 [.row 1,.pv (.bool x1.2.1),.pv (.bool x1.2.2.1),.pv (.int .i64 x1.2.2.2.1),.pv (.int .i64 x1.2.2.2.2.1)],oR true 9 1 (List.map z09 x1.2.2.2.2.2),oB 124 (bs (z0d a1))]⟩) (fun (j1:(Bool × Bool × Int × Int × (List ByteArray)))=>⟨40,2,[(0,[xP 0 0]),(3,[xP 2 0])],[oB 246 [.row 1,.pv (.bool j1.1),.pv (.bool j1.2.1),.pv (.int .i64 j1.2.2.1),.pv (.int .i64 j1.2.2.2.1)],oR true 9 1 (List.map z09 j1.2.2.2.2),oB 124 (bs (z0d a1))]⟩) zlx (0,v3.f_form,v3.f_deep,v3.f_blocks,v3.f_parens,v3.f_out) (fun _=>⟨_,_,_,_,rfl⟩) h (by kernel_rfl) (fun x1 o h=>?_) (fun r' h=>?_) (fun j1 h=>?_)
 ·unfold z7n at h
  rcases iteE h with ⟨k4,h⟩|⟨k4,h⟩
  ·obtain ⟨v4,k5,h⟩:=z07 h
   obtain ⟨v5,k6,h⟩:=z07 h
   obtain ⟨v6,k7,h⟩:=z07 h
   obtain ⟨v7,k8,h⟩:=z07 h
   obtain rfl:=retE h
   exact fin (ok X) 16 [.b true,.e [.str v4],.s (z0j v5) (z0k v5),.s (z22 v6) (z23 v6),.s (z0j v7) (z0k v7)] (pA k4 (pA (ixm z09 k5) (pA (z0l (X:=X) k6) (pA (z28 (X:=X) k7) (pA (z0l (X:=X) k8) pT))))) (by kernel_rfl)
  ·obtain rfl:=retE h
   exact fin (ok X) 5 [.b false] (pA k4 pT) (by kernel_rfl)
 ·cases h
 ·obtain ⟨v8,k9,h⟩:=z07 h
  obtain ⟨v9,k10,h⟩:=z07 h
  obtain rfl:=retE h
  exact fin (ok X) 3 [.s (z4y v8) (z4z v8),.s (z0j v9) (z0k v9)] (pA (zkx (X:=X) k9) (pA (z0l (X:=X) k10) pT)) (by kernel_rfl)
theorem zta {a0:z17} {r:((List ByteArray) × Int)} (h:zhv a0=some r):Cv Tryz.prog (GX X) 69 [.agg (bs (z5l a0))] (zgy r):=by
 refine Cs.toV (?_:Cs Tryz.prog (GX X) 69 [.agg (bs (z5l a0))] [] (zgy r) (znw r)) (by kernel_rfl)
 refine fnT (cx:=cx X) Tryz.f69 Tryz.call69 Tryz.func69 (by kernel_rfl) ?_
 unfold zhv at h
 refine adv (ok X) 7 [.i (a0.Chans.length:Int)] (pA (lm z0c a0.Chans) pT) (by kernel_rfl) ?_
 refine lp (ok X) (zaf a0) (fun (x1:(Int × Bool × Bool × Int × Int × (List ByteArray)))=>⟨67,0,[(1,[xP 0 0]),(4,[xP 1 0]),(14,[xL (List.map z0c a0.Chans)]),(15,[xI (a0.Chans.length:Int)]),(16,[xI x1.1])],[oB 67 (bs (z5l a0)),oB 246 [.row 2,.pv (.bool x1.2.1),.pv (.bool x1.2.2.1),.pv (.int .i64 x1.2.2.2.1),.pv (.int .i64 x1.2.2.2.2.1)],oR true 9 1 (List.map z09 x1.2.2.2.2.2)]⟩) (fun (j1:(Bool × Bool × Int × Int × (List ByteArray)))=>⟨67,0,[(1,[xP 0 0]),(4,[xP 1 0])],[oB 67 (bs (z5l a0)),oB 246 [.row 2,.pv (.bool j1.1),.pv (.bool j1.2.1),.pv (.int .i64 j1.2.2.1),.pv (.int .i64 j1.2.2.2.1)],oR true 9 1 (List.map z09 j1.2.2.2.2)]⟩) zjk (0,false,false,0,0,[]) (fun _=>⟨_,_,_,_,rfl⟩) h (by kernel_rfl) (fun x1 o h=>?_) (fun r' h=>?_) (fun j1 h=>?_)
 ·unfold zaf at h
  rcases iteE h with ⟨k1,h⟩|⟨k1,h⟩
  ·obtain ⟨v1,k2,h⟩:=z07 h
   obtain ⟨v2,k3,h⟩:=z07 h
   obtain rfl:=retE h
   exact fin (ok X) 12 [.b true,.e (z0c v1),.s (zb6 v2) (zb7 v2)] (pA k1 (pA (ixm z0c k2) (pA (zir (X:=X) k3) pT))) (by kernel_rfl)
  ·obtain rfl:=retE h
   exact fin (ok X) 5 [.b false] (pA k1 pT) (by kernel_rfl)
 ·cases h
 ·refine adv (ok X) 3 [.i (a0.Rules.length:Int)] (pA (lm z0e a0.Rules) pT) (by kernel_rfl) ?_
  refine lp (ok X) (zag a0) (fun (x2:(Int × Bool × Bool × Int × Int × (List ByteArray)))=>⟨67,0,[(1,[xP 0 0]),(4,[xP 1 0]),(25,[xL (List.map z0e a0.Rules)]),(26,[xI (a0.Rules.length:Int)]),(27,[xI x2.1])],[oB 67 (bs (z5l a0)),oB 246 [.row 2,.pv (.bool x2.2.1),.pv (.bool x2.2.2.1),.pv (.int .i64 x2.2.2.2.1),.pv (.int .i64 x2.2.2.2.2.1)],oR true 9 1 (List.map z09 x2.2.2.2.2.2)]⟩) (fun (j2:(Bool × Bool × Int × Int × (List ByteArray)))=>⟨67,0,[(1,[xP 0 0]),(4,[xP 1 0])],[oB 67 (bs (z5l a0)),oB 246 [.row 2,.pv (.bool j2.1),.pv (.bool j2.2.1),.pv (.int .i64 j2.2.2.1),.pv (.int .i64 j2.2.2.2.1)],oR true 9 1 (List.map z09 j2.2.2.2.2)]⟩) zjk (0,j1.1,j1.2.1,j1.2.2.1,j1.2.2.2.1,j1.2.2.2.2) (fun _=>⟨_,_,_,_,rfl⟩) h (by kernel_rfl) (fun x2 o h=>?_) (fun r' h=>?_) (fun j2 h=>?_)
  ·unfold zag at h
   rcases iteE h with ⟨k4,h⟩|⟨k4,h⟩
   ·obtain ⟨v3,k5,h⟩:=z07 h
    obtain ⟨v4,k6,h⟩:=z07 h
    obtain rfl:=retE h
    exact fin (ok X) 12 [.b true,.e (z0e v3),.s (zd2 v4) (zd3 v4)] (pA k4 (pA (ixm z0e k5) (pA (zm4 (X:=X) k6) pT))) (by kernel_rfl)
   ·obtain rfl:=retE h
    exact fin (ok X) 5 [.b false] (pA k4 pT) (by kernel_rfl)
  ·cases h
  ·refine adv (ok X) 3 [.i (a0.Procs.length:Int)] (pA (lm z0d a0.Procs) pT) (by kernel_rfl) ?_
   refine lp (ok X) (zah a0) (fun (x3:(Int × Bool × Bool × Int × Int × (List ByteArray)))=>⟨67,0,[(4,[xP 1 0]),(36,[xL (List.map z0d a0.Procs)]),(37,[xI (a0.Procs.length:Int)]),(38,[xI x3.1])],[none,oB 246 [.row 2,.pv (.bool x3.2.1),.pv (.bool x3.2.2.1),.pv (.int .i64 x3.2.2.2.1),.pv (.int .i64 x3.2.2.2.2.1)],oR true 9 1 (List.map z09 x3.2.2.2.2.2)]⟩) (fun (j3:(Bool × Bool × Int × Int × (List ByteArray)))=>⟨67,0,[(4,[xP 1 0])],[none,oB 246 [.row 2,.pv (.bool j3.1),.pv (.bool j3.2.1),.pv (.int .i64 j3.2.2.1),.pv (.int .i64 j3.2.2.2.1)],oR true 9 1 (List.map z09 j3.2.2.2.2)]⟩) zjk (0,j2.1,j2.2.1,j2.2.2.1,j2.2.2.2.1,j2.2.2.2.2) (fun _=>⟨_,_,_,_,rfl⟩) h (by kernel_rfl) (fun x3 o h=>?_) (fun r' h=>?_) (fun j3 h=>?_)
   ·unfold zah at h
    rcases iteE h with ⟨k7,h⟩|⟨k7,h⟩
    ·obtain ⟨v5,k8,h⟩:=z07 h
     obtain ⟨v6,k9,h⟩:=z07 h
     obtain rfl:=retE h
     exact fin (ok X) 12 [.b true,.e (z0d v5),.s (zd4 v6) (zd5 v6)] (pA k7 (pA (ixm z0d k8) (pA (zm9 (X:=X) k9) pT))) (by kernel_rfl)
    ·obtain rfl:=retE h
     exact fin (ok X) 5 [.b false] (pA k7 pT) (by kernel_rfl)
   ·cases h
   ·rcases iteE h with ⟨k10,h⟩|⟨k10,h⟩
    ·obtain rfl:=retE h
     exact fin (ok X) 8 [.b true] (pA k10 pT) (by kernel_rfl)
    ·refine adv (ok X) 7 [.b false] (pA k10 pT) (by kernel_rfl) ?_
     rcases iteE h with ⟨k11,h⟩|⟨k11,h⟩
     ·obtain rfl:=retE h
      exact fin (ok X) 4 [.b true] (pA k11 pT) (by kernel_rfl)
     ·refine adv (ok X) 3 [.b false,.i (j3.2.2.2.2.length:Int)] (pA k11 (pA (lm z09 j3.2.2.2.2) pT)) (by kernel_rfl) ?_
      rcases iteE h with ⟨k12,h⟩|⟨k12,h⟩
      ·obtain rfl:=retE h
       exact fin (ok X) 4 [.b true] (pA k12 pT) (by kernel_rfl)
      ·obtain rfl:=retE h
       exact fin (ok X) 6 [.b false] (pA k12 pT) (by kernel_rfl)
end Go.Proofs.YtimbigpplbbjaaaGreatDoor.Abs

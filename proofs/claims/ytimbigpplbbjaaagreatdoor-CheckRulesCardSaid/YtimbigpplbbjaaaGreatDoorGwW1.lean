/- Gw: the functions are these. -/
import Derived.Test.YtimbigpplbbjaaaGreatDoorGwW0
namespace Go.Proofs.YtimbigpplbbjaaaGreatDoor.Abs
open Go Go.RowKit
set_option linter.unusedVariables false
set_option maxRecDepth 100000
set_option maxHeartbeats 4000000
variable {X:EV}
theorem zo0 {a0:z17} {r:Bool} (h:zcj a0=some r):Cv Tryz.prog (GX X) 32 [.agg (bs (z5l a0))] (zep r):=by
 refine Cs.toV (?_:Cs Tryz.prog (GX X) 32 [.agg (bs (z5l a0))] [] (zep r) (znx r)) (by kernel_rfl)
 refine fnT (cx:=cx X) Tryz.f32 Tryz.call32 Tryz.func32 (by kernel_rfl) ?_
 unfold zcj at h
 obtain ⟨v1,k1,h⟩:=z07 h
 obtain rfl:=retE h
 exact fin (ok X) 7 [.c (zgy v1)] (pA (zta (X:=X) k1) pT) (by kernel_rfl)
theorem zky {a0:z01} {a1:Int} {r:z01} (h:zbk a0 a1=some r):Cs Tryz.prog (GX X) 115 [xP 0 0,xI a1] [oB 117 [.pv (.sl (List.map z0c a0.f_s.Chans)),.pv (.sl (List.map z0e a0.f_s.Rules)),.pv (.sl (List.map z0d a0.f_s.Procs)),.row 1,.row 2,.row 3,.row 4,.pv (.int .i64 a0.f_proc),.pv (.sl (List.map z09 a0.f_vars)),.pv (.int .i64 a0.f_e)],oT false none 69 6 (List.map z04 a0.f_p.Chans),oR false 78 2 (List.map z0b a0.f_p.Procs),oR false 9 1 (List.map z09 a0.f_chans),oR false 9 1 (List.map z09 a0.f_procs)] (zff r) (zfg a0 r):=by
 refine fnT (cx:=cx X) Tryz.f115 Tryz.call115 Tryz.func115 (by kernel_rfl) ?_
 unfold zbk at h
 rcases iteE h with ⟨k1,h⟩|⟨k1,h⟩
 ·obtain rfl:=retE h
  exact fin (ok X) 4 [.b true] (pA k1 pT) (by kernel_rfl)
 ·obtain rfl:=retE h
  exact fin (ok X) 4 [.b false] (pA k1 pT) (by kernel_rfl)
theorem z27 {a0:z01} {a1:Bool} {a2:Int} {r:z01} (h:z14 a0 a1 a2=some r):Cs Tryz.prog (GX X) 70 [xP 0 0,xB a1,xI a2] [oB 117 [.pv (.sl (List.map z0c a0.f_s.Chans)),.pv (.sl (List.map z0e a0.f_s.Rules)),.pv (.sl (List.map z0d a0.f_s.Procs)),.row 1,.row 2,.row 3,.row 4,.pv (.int .i64 a0.f_proc),.pv (.sl (List.map z09 a0.f_vars)),.pv (.int .i64 a0.f_e)],oT false none 69 6 (List.map z04 a0.f_p.Chans),oR false 78 2 (List.map z0b a0.f_p.Procs),oR false 9 1 (List.map z09 a0.f_chans),oR false 9 1 (List.map z09 a0.f_procs)] (z1y r) (z1z a0 r):=by
 refine fnT (cx:=cx X) Tryz.f70 Tryz.call70 Tryz.func70 (by kernel_rfl) ?_
 unfold z14 at h
 rcases iteE h with ⟨k1,h⟩|⟨k1,h⟩
 ·obtain ⟨v1,k2,h⟩:=z07 h
  obtain rfl:=retE h
  exact fin (ok X) 4 [.b true,.s (zff v1) (zfg a0 v1)] (pA k1 (pA (zky (X:=X) k2) pT)) (by kernel_rfl)
 ·obtain rfl:=retE h
  exact fin (ok X) 4 [.b false] (pA k1 pT) (by kernel_rfl)
theorem z67 {a0:(List ByteArray)} {a1:ByteArray} {r:Int} (h:z3n a0 a1=some r):Cv Tryz.prog (GX X) 117 [xL (List.map z09 a0),xS a1] (z3v r):=by
 refine Cs.toV (?_:Cs Tryz.prog (GX X) 117 [xL (List.map z09 a0),xS a1] [] (z3v r) (z9x r)) (by kernel_rfl)
 refine fnT (cx:=cx X) Tryz.f117 Tryz.call117 Tryz.func117 (by kernel_rfl) ?_
 unfold z3n at h
 refine adv (ok X) 5 [.i (a0.length:Int)] (pA (lm z09 a0) pT) (by kernel_rfl) ?_
 refine lp (ok X) (z3m a0 a1) (fun (x1:Int)=>⟨19,0,[(0,[xL (List.map z09 a0)]),(1,[xS a1]),(7,[xI (a0.length:Int)]),(8,[xI x1])],[]⟩) (fun (j1:Unit)=>⟨19,0,[],[]⟩) zdw 0 (fun _=>⟨_,_,_,_,rfl⟩) h (by kernel_rfl) (fun x1 o h=>?_) (fun r' h=>?_) (fun j1 h=>?_)
 ·unfold z3m at h
  rcases iteE h with ⟨k1,h⟩|⟨k1,h⟩
  ·obtain ⟨v1,k2,h⟩:=z07 h
   refine adv (ok X) 11 [.b true,.e [.str v1]] (pA k1 (pA (ixm z09 k2) pT)) (by kernel_rfl) ?_
   rcases iteE h with ⟨k3,h⟩|⟨k3,h⟩
   ·obtain rfl:=retE h
    exact fin (ok X) 4 [.b true] (pA k3 pT) (by kernel_rfl)
   ·obtain rfl:=retE h
    exact fin (ok X) 4 [.b false] (pA k3 pT) (by kernel_rfl)
  ·obtain rfl:=retE h
   exact fin (ok X) 5 [.b false] (pA k1 pT) (by kernel_rfl)
 ·obtain rfl:=retE h
  kernel_rfl
 ·obtain rfl:=retE h
  exact fin (ok X) 3 [] pT (by kernel_rfl)
theorem z6x {a0:(List ByteArray)} {a1:ByteArray} {r:Bool} (h:z3o a0 a1=some r):Cv Tryz.prog (GX X) 116 [xL (List.map z09 a0),xS a1] (z4w r):=by
 refine Cs.toV (?_:Cs Tryz.prog (GX X) 116 [xL (List.map z09 a0),xS a1] [] (z4w r) (zcs r)) (by kernel_rfl)
 refine fnT (cx:=cx X) Tryz.f116 Tryz.call116 Tryz.func116 (by kernel_rfl) ?_
 unfold z3o at h
 obtain ⟨v1,k1,h⟩:=z07 h
 obtain rfl:=retE h
 exact fin (ok X) 5 [.c (z3v v1)] (pA (z67 (X:=X) k1) pT) (by kernel_rfl)
theorem zma {a0:z01} {a2:ByteArray} {r:(z01 × (List ByteArray))} (h:z9e a0 a2=some r):Cs Tryz.prog (GX X) 71 [xP 0 0,xR 3,xS a2] [oB 117 [.pv (.sl (List.map z0c a0.f_s.Chans)),.pv (.sl (List.map z0e a0.f_s.Rules)),.pv (.sl (List.map z0d a0.f_s.Procs)),.row 1,.row 2,.row 3,.row 4,.pv (.int .i64 a0.f_proc),.pv (.sl (List.map z09 a0.f_vars)),.pv (.int .i64 a0.f_e)],oT false none 69 6 (List.map z04 a0.f_p.Chans),oR false 78 2 (List.map z0b a0.f_p.Procs),oR false 9 1 (List.map z09 a0.f_chans),oR false 9 1 (List.map z09 a0.f_procs)] (zge r) (zgf a0 r):=by
 refine fnT (cx:=cx X) Tryz.f71 Tryz.call71 Tryz.func71 (by kernel_rfl) ?_
 unfold z9e at h
 obtain ⟨v1,k1,h⟩:=z07 h
 obtain ⟨v2,k2,h⟩:=z07 h
 obtain ⟨v3,k3,h⟩:=z07 h
 obtain rfl:=retE h
 exact fin (ok X) 7 [.cb (z4w v1),.s (z1y v2) (z1z a0 v2),.l (List.map z09 v3)] (pA (z6x (X:=X) k1) (pA (z27 (X:=X) k2) (pA (apm (L:=a0.f_chans) (M:=[a2]) zcq k3) pT))) (by kernel_rfl)
theorem zez {a0:z01} {a1:(List ByteArray)} {a2:ByteArray} {r:(z01 × (List ByteArray) × (List ByteArray))} (h:z6e a0 a1 a2=some r):Cs Tryz.prog (GX X) 71 [xP 0 0,xR 5,xS a2] [oB 117 [.pv (.sl (List.map z0c a0.f_s.Chans)),.pv (.sl (List.map z0e a0.f_s.Rules)),.pv (.sl (List.map z0d a0.f_s.Procs)),.row 1,.row 2,.row 3,.row 4,.pv (.int .i64 a0.f_proc),.pv (.sl (List.map z09 a0.f_vars)),.pv (.int .i64 a0.f_e)],oT false none 69 6 (List.map z04 a0.f_p.Chans),oR false 78 2 (List.map z0b a0.f_p.Procs),oR false 9 1 (List.map z09 a0.f_chans),oR false 9 1 (List.map z09 a0.f_procs),oR false 9 1 (List.map z09 a1)] (zbp r) (zbq a0 r):=by
 refine fnT (cx:=cx X) Tryz.f71 Tryz.call71 Tryz.func71 (by kernel_rfl) ?_
 unfold z6e at h
 obtain ⟨v1,k1,h⟩:=z07 h
 obtain ⟨v2,k2,h⟩:=z07 h
 obtain ⟨v3,k3,h⟩:=z07 h
 obtain rfl:=retE h
 exact fin (ok X) 7 [.cb (z4w v1),.s (z1y v2) (z1z a0 v2),.l (List.map z09 v3)] (pA (z6x (X:=X) k1) (pA (z27 (X:=X) k2) (pA (apm (L:=a1) (M:=[a2]) zcq k3) pT))) (by kernel_rfl)
theorem zf0 {a0:z01} {a1:(List ByteArray)} {r:z01} (h:z6f a0 a1=some r):Cs Tryz.prog (GX X) 72 [xP 0 0,xL (List.map z09 a1)] [oB 117 [.pv (.sl (List.map z0c a0.f_s.Chans)),.pv (.sl (List.map z0e a0.f_s.Rules)),.pv (.sl (List.map z0d a0.f_s.Procs)),.row 1,.row 2,.row 3,.row 4,.pv (.int .i64 a0.f_proc),.pv (.sl (List.map z09 a0.f_vars)),.pv (.int .i64 a0.f_e)],oT false none 69 6 (List.map z04 a0.f_p.Chans),oR false 78 2 (List.map z0b a0.f_p.Procs),oR false 9 1 (List.map z09 a0.f_chans),oR false 9 1 (List.map z09 a0.f_procs)] (z9n r) (z9o a0 r):=by
 refine fnT (cx:=cx X) Tryz.f72 Tryz.call72 Tryz.func72 (by kernel_rfl) ?_
 unfold z6f at h
 refine adv (ok X) 4 [.i (a1.length:Int)] (pA (lm z09 a1) pT) (by kernel_rfl) ?_
 refine lp (ok X) (z6s a0 a1) (fun (x1:(Int × Int × (List ByteArray)))=>⟨18,5,[(0,[xP 0 0]),(4,[xR 5]),(7,[xL (List.map z09 a1)]),(8,[xI (a1.length:Int)]),(9,[xI x1.1])],[oB 117 [.pv (.sl (List.map z0c a0.f_s.Chans)),.pv (.sl (List.map z0e a0.f_s.Rules)),.pv (.sl (List.map z0d a0.f_s.Procs)),.row 1,.row 2,.row 3,.row 4,.pv (.int .i64 a0.f_proc),.pv (.sl (List.map z09 a0.f_vars)),.pv (.int .i64 x1.2.1)],oT false none 69 6 (List.map z04 a0.f_p.Chans),oR false 78 2 (List.map z0b a0.f_p.Procs),oR false 9 1 (List.map z09 a0.f_chans),oR false 9 1 (List.map z09 a0.f_procs),oR true 9 1 (List.map z09 x1.2.2)]⟩) (fun (j1:Int)=>⟨18,5,[],[oB 117 [.pv (.sl (List.map z0c a0.f_s.Chans)),.pv (.sl (List.map z0e a0.f_s.Rules)),.pv (.sl (List.map z0d a0.f_s.Procs)),.row 1,.row 2,.row 3,.row 4,.pv (.int .i64 a0.f_proc),.pv (.sl (List.map z09 a0.f_vars)),.pv (.int .i64 j1)],oT false none 69 6 (List.map z04 a0.f_p.Chans),oR false 78 2 (List.map z0b a0.f_p.Procs),oR false 9 1 (List.map z09 a0.f_chans),oR false 9 1 (List.map z09 a0.f_procs)]⟩) (zjl a0) (0,a0.f_e,[]) (fun _=>⟨_,_,_,_,rfl⟩) h (by kernel_rfl) (fun x1 o h=>?_) (fun r' h=>?_) (fun j1 h=>?_)
 ·unfold z6s at h
  rcases iteE h with ⟨k1,h⟩|⟨k1,h⟩
  ·obtain ⟨v1,k2,h⟩:=z07 h
   obtain ⟨v2,k3,h⟩:=z07 h
   obtain rfl:=retE h
   exact fin (ok X) 12 [.b true,.e [.str v1],.s (zbp v2) (zbq (z01.mk a0.f_s a0.f_p a0.f_chans a0.f_procs a0.f_proc a0.f_vars x1.2.1) v2)] (pA k1 (pA (ixm z09 k2) (pA (zez (X:=X) k3) pT))) (by kernel_rfl)
  ·obtain rfl:=retE h
   exact fin (ok X) 5 [.b false] (pA k1 pT) (by kernel_rfl)
 ·cases h
 ·obtain rfl:=retE h
  exact fin (ok X) 0 [] pT (by kernel_rfl)
theorem zi4 {a0:z01} {r:z01} (h:z8a a0=some r):Cs Tryz.prog (GX X) 33 [xP 0 0] [oB 117 [.pv (.sl (List.map z0c a0.f_s.Chans)),.pv (.sl (List.map z0e a0.f_s.Rules)),.pv (.sl (List.map z0d a0.f_s.Procs)),.row 1,.row 2,.row 3,.row 4,.pv (.int .i64 a0.f_proc),.pv (.sl (List.map z09 a0.f_vars)),.pv (.int .i64 a0.f_e)],oT false none 69 6 (List.map z04 a0.f_p.Chans),oR false 78 2 (List.map z0b a0.f_p.Procs),oR false 9 1 (List.map z09 a0.f_chans),oR false 9 1 (List.map z09 a0.f_procs)] (zai r) (zaj a0 r):=by
 refine fnT (cx:=cx X) Tryz.f33 Tryz.call33 Tryz.func33 (by kernel_rfl) ?_
 unfold z8a at h
 obtain ⟨v1,k1,h⟩:=z07 h
 refine adv (ok X) 4 [.i (a0.f_s.Chans.length:Int),.s (z1y v1) (z1z a0 v1),.i (a0.f_s.Chans.length:Int)] (pA (lm z0c a0.f_s.Chans) (pA (z27 (X:=X) k1) (pA (lm z0c a0.f_s.Chans) pT))) (by kernel_rfl) ?_
 refine lp (ok X) (z64 a0) (fun (x1:(Int × Int × (List z0a) × (List ByteArray)))=>⟨74,5,[(0,[xP 0 0]),(17,[xL (List.map z0c a0.f_s.Chans)]),(18,[xI (a0.f_s.Chans.length:Int)]),(19,[xI x1.1])],[oB 117 [.pv (.sl (List.map z0c a0.f_s.Chans)),.pv (.sl (List.map z0e a0.f_s.Rules)),.pv (.sl (List.map z0d a0.f_s.Procs)),.row 1,.row 2,.row 3,.row 4,.pv (.int .i64 a0.f_proc),.pv (.sl (List.map z09 a0.f_vars)),.pv (.int .i64 x1.2.1)],oT true none 69 6 (List.map z04 x1.2.2.1),oR false 78 2 (List.map z0b a0.f_p.Procs),oR true 9 1 (List.map z09 x1.2.2.2),oR false 9 1 (List.map z09 a0.f_procs)]⟩) (fun (j1:(Int × (List z0a) × (List ByteArray)))=>⟨74,5,[],[oB 117 [.pv (.sl (List.map z0c a0.f_s.Chans)),.pv (.sl (List.map z0e a0.f_s.Rules)),.pv (.sl (List.map z0d a0.f_s.Procs)),.row 1,.row 2,.row 3,.row 4,.pv (.int .i64 a0.f_proc),.pv (.sl (List.map z09 a0.f_vars)),.pv (.int .i64 j1.1)],oT true none 69 6 (List.map z04 j1.2.1),oR false 78 2 (List.map z0b a0.f_p.Procs),oR true 9 1 (List.map z09 j1.2.2),oR false 9 1 (List.map z09 a0.f_procs)]⟩) (zhw a0) (0,v1.f_e,a0.f_p.Chans,a0.f_chans) (fun _=>⟨_,_,_,_,rfl⟩) h (by kernel_rfl) (fun x1 o h=>?_) (fun r' h=>?_) (fun j1 h=>?_)
 ·unfold z64 at h
  rcases iteE h with ⟨k2,h⟩|⟨k2,h⟩
  ·obtain ⟨v2,k3,h⟩:=z07 h
   obtain ⟨v3,k4,h⟩:=z07 h
   refine adv (ok X) 12 [.b true,.e (z0c v2),.o [0,1,2,3,4,5,6,7,8,9,10,11],.s (zge v3) (zgf (z01.mk a0.f_s (z18.mk x1.2.2.1 a0.f_p.Procs) x1.2.2.2 a0.f_procs a0.f_proc a0.f_vars x1.2.1) v3)] (pA k2 (pA (ixm z0c k3) (pA (zma (X:=X) k4) pT))) (by kernel_rfl) ?_
   refine jn (ok X) 1 (fun (j2:Int)=>⟨74,5,[(0,[xP 0 0]),(3,[xP 5 0]),(17,[xL (List.map z0c a0.f_s.Chans)]),(18,[xI (a0.f_s.Chans.length:Int)]),(19,[xI x1.1])],[oB 117 [.pv (.sl (List.map z0c a0.f_s.Chans)),.pv (.sl (List.map z0e a0.f_s.Rules)),.pv (.sl (List.map z0d a0.f_s.Procs)),.row 1,.row 2,.row 3,.row 4,.pv (.int .i64 a0.f_proc),.pv (.sl (List.map z09 a0.f_vars)),.pv (.int .i64 j2)],oT true none 69 6 (List.map z04 x1.2.2.1),oR false 78 2 (List.map z0b a0.f_p.Procs),oR true 9 1 (List.map z09 v3.2),oR false 9 1 (List.map z09 a0.f_procs),oB 126 (bs (z0c v2))]⟩) h (fun j2 h=>?_) (fun j2 h=>?_)
   ·rcases iteE h with ⟨k5,h⟩|⟨k5,h⟩
    ·rcases iteE h with ⟨k6,h⟩|⟨k6,h⟩
     ·obtain ⟨v4,k7,h⟩:=z07 h
      obtain rfl:=retE h
      exact fin (ok X) 1 (bT 7 [.i (v2.Tags.length:Int),.b true,.b true,.s (z1y v4) (z1z (z01.mk a0.f_s (z18.mk x1.2.2.1 a0.f_p.Procs) v3.2 a0.f_procs a0.f_proc a0.f_vars v3.1.f_e) v4)]) (pR 4 k5 (pR 3 k6 (pA (lm z09 v2.Tags) (pA k6 (pA k6 (pA (z27 (X:=X) k7) pT)))))) (by kernel_rfl)
     ·obtain ⟨v5,k8,h⟩:=z07 h
      obtain rfl:=retE h
      exact fin (ok X) 1 (bT 4 (bF 5 [.s (z1y v5) (z1z (z01.mk a0.f_s (z18.mk x1.2.2.1 a0.f_p.Procs) v3.2 a0.f_procs a0.f_proc a0.f_vars v3.1.f_e) v5)])) (pR 4 k5 (pR 5 k6 (pA (z27 (X:=X) k8) pT))) (by kernel_rfl)
    ·obtain ⟨v6,k9,h⟩:=z07 h
     obtain rfl:=retE h
     exact fin (ok X) 1 (bF 9 [.s (z1y v6) (z1z (z01.mk a0.f_s (z18.mk x1.2.2.1 a0.f_p.Procs) v3.2 a0.f_procs a0.f_proc a0.f_vars v3.1.f_e) v6)]) (pR 4 k5 (pR 5 ff (pA (z27 (X:=X) k9) pT))) (by kernel_rfl)
   ·obtain ⟨v7,k10,h⟩:=z07 h
    obtain ⟨v8,k11,h⟩:=z07 h
    obtain rfl:=retE h
    exact fin (ok X) 5 [.s (z9n v7) (z9o (z01.mk a0.f_s (z18.mk x1.2.2.1 a0.f_p.Procs) v3.2 a0.f_procs a0.f_proc a0.f_vars j2) v7),.o [0,1,2,3,4,5,6,7,8,9,10,11,12,13,14,15,16,17,18,19],.i (v2.Tags.length:Int),.ox,.ap [(5,false,40,1)] (List.map z04 v8)] (pA (zf0 (X:=X) k10) (pA (lm z09 v2.Tags) (pA (apt1 z04 k11) (pA (apt2 z04 k11) pT)))) (by kernel_rfl)
  ·obtain rfl:=retE h
   exact fin (ok X) 5 [.b false] (pA k2 pT) (by kernel_rfl)
 ·cases h
 ·obtain rfl:=retE h
  exact fin (ok X) 0 [] pT (by kernel_rfl)
theorem zjt {a0:z01} {a2:ByteArray} {r:(z01 × (List ByteArray))} (h:z82 a0 a2=some r):Cs Tryz.prog (GX X) 71 [xP 0 0,xR 4,xS a2] [oB 117 [.pv (.sl (List.map z0c a0.f_s.Chans)),.pv (.sl (List.map z0e a0.f_s.Rules)),.pv (.sl (List.map z0d a0.f_s.Procs)),.row 1,.row 2,.row 3,.row 4,.pv (.int .i64 a0.f_proc),.pv (.sl (List.map z09 a0.f_vars)),.pv (.int .i64 a0.f_e)],oT false none 69 6 (List.map z04 a0.f_p.Chans),oR false 78 2 (List.map z0b a0.f_p.Procs),oR false 9 1 (List.map z09 a0.f_chans),oR false 9 1 (List.map z09 a0.f_procs)] (zeq r) (zer a0 r):=by
 refine fnT (cx:=cx X) Tryz.f71 Tryz.call71 Tryz.func71 (by kernel_rfl) ?_
 unfold z82 at h
 obtain ⟨v1,k1,h⟩:=z07 h
 obtain ⟨v2,k2,h⟩:=z07 h
 obtain ⟨v3,k3,h⟩:=z07 h
 obtain rfl:=retE h
 exact fin (ok X) 7 [.cb (z4w v1),.s (z1y v2) (z1z a0 v2),.l (List.map z09 v3)] (pA (z6x (X:=X) k1) (pA (z27 (X:=X) k2) (pA (apm (L:=a0.f_procs) (M:=[a2]) zcq k3) pT))) (by kernel_rfl)
theorem zf1 {a0:z01} {a2:ByteArray} {r:(z01 × Int)} (h:z77 a0 a2=some r):Cs Tryz.prog (GX X) 73 [xP 0 0,xR 4,xS a2] [oB 117 [.pv (.sl (List.map z0c a0.f_s.Chans)),.pv (.sl (List.map z0e a0.f_s.Rules)),.pv (.sl (List.map z0d a0.f_s.Procs)),.row 1,.row 2,.row 3,.row 4,.pv (.int .i64 a0.f_proc),.pv (.sl (List.map z09 a0.f_vars)),.pv (.int .i64 a0.f_e)],oT false none 69 6 (List.map z04 a0.f_p.Chans),oR false 78 2 (List.map z0b a0.f_p.Procs),oR false 9 1 (List.map z09 a0.f_chans),oR false 9 1 (List.map z09 a0.f_procs)] (zbr r) (zbs a0 r):=by
 refine fnT (cx:=cx X) Tryz.f73 Tryz.call73 Tryz.func73 (by kernel_rfl) ?_
 unfold z77 at h
 obtain ⟨v1,k1,h⟩:=z07 h
 obtain ⟨v2,k2,h⟩:=z07 h
 obtain rfl:=retE h
 exact fin (ok X) 9 [.cb (z3v v1),.s (z1y v2) (z1z a0 v2)] (pA (z67 (X:=X) k1) (pA (z27 (X:=X) k2) pT)) (by kernel_rfl)
theorem zkz {a0:z01} {r:z01} (h:z9y a0=some r):Cs Tryz.prog (GX X) 34 [xP 0 0] [oB 117 [.pv (.sl (List.map z0c a0.f_s.Chans)),.pv (.sl (List.map z0e a0.f_s.Rules)),.pv (.sl (List.map z0d a0.f_s.Procs)),.row 1,.row 2,.row 3,.row 4,.pv (.int .i64 a0.f_proc),.pv (.sl (List.map z09 a0.f_vars)),.pv (.int .i64 a0.f_e)],oT false none 69 6 (List.map z04 a0.f_p.Chans),oR false 78 2 (List.map z0b a0.f_p.Procs),oR false 9 1 (List.map z09 a0.f_chans),oR false 9 1 (List.map z09 a0.f_procs)] (zck r) (zcl a0 r):=by
 refine fnT (cx:=cx X) Tryz.f34 Tryz.call34 Tryz.func34 (by kernel_rfl) ?_
 unfold z9y at h
 refine adv (ok X) 3 [.i (a0.f_s.Procs.length:Int)] (pA (lm z0d a0.f_s.Procs) pT) (by kernel_rfl) ?_
 refine jn (ok X) 1 (fun (j1:Int)=>⟨96,5,[(0,[xP 0 0])],[oB 117 [.pv (.sl (List.map z0c a0.f_s.Chans)),.pv (.sl (List.map z0e a0.f_s.Rules)),.pv (.sl (List.map z0d a0.f_s.Procs)),.row 1,.row 2,.row 3,.row 4,.pv (.int .i64 a0.f_proc),.pv (.sl (List.map z09 a0.f_vars)),.pv (.int .i64 j1)],oT false none 69 6 (List.map z04 a0.f_p.Chans),oR false 78 2 (List.map z0b a0.f_p.Procs),oR false 9 1 (List.map z09 a0.f_chans),oR false 9 1 (List.map z09 a0.f_procs)]⟩) h (fun j1 h=>?_) (fun j1 h=>?_)
 ·rcases iteE h with ⟨k1,h⟩|⟨k1,h⟩
  ·obtain ⟨v1,k2,h⟩:=z07 h
   obtain rfl:=retE h
   exact fin (ok X) 1 (bT 3 [.s (z1y v1) (z1z a0 v1)]) (pR 3 k1 (pA (z27 (X:=X) k2) pT)) (by kernel_rfl)
  ·obtain ⟨v2,k3,h⟩:=z07 h
   obtain rfl:=retE h
   exact fin (ok X) 1 (bF 3 [.s (z1y v2) (z1z a0 v2)]) (pR 3 k1 (pA (z27 (X:=X) k3) pT)) (by kernel_rfl)
 ·refine adv (ok X) 3 [.i (a0.f_s.Procs.length:Int)] (pA (lm z0d a0.f_s.Procs) pT) (by kernel_rfl) ?_
  refine lp (ok X) (z78 a0) (fun (x2:(Int × Int × (List ByteArray)))=>⟨96,5,[(0,[xP 0 0]),(26,[xL (List.map z0d a0.f_s.Procs)]),(27,[xI (a0.f_s.Procs.length:Int)]),(28,[xI x2.1])],[oB 117 [.pv (.sl (List.map z0c a0.f_s.Chans)),.pv (.sl (List.map z0e a0.f_s.Rules)),.pv (.sl (List.map z0d a0.f_s.Procs)),.row 1,.row 2,.row 3,.row 4,.pv (.int .i64 a0.f_proc),.pv (.sl (List.map z09 a0.f_vars)),.pv (.int .i64 x2.2.1)],oT false none 69 6 (List.map z04 a0.f_p.Chans),oR false 78 2 (List.map z0b a0.f_p.Procs),oR false 9 1 (List.map z09 a0.f_chans),oR true 9 1 (List.map z09 x2.2.2)]⟩) (fun (j2:(Int × (List ByteArray)))=>⟨96,5,[(0,[xP 0 0])],[oB 117 [.pv (.sl (List.map z0c a0.f_s.Chans)),.pv (.sl (List.map z0e a0.f_s.Rules)),.pv (.sl (List.map z0d a0.f_s.Procs)),.row 1,.row 2,.row 3,.row 4,.pv (.int .i64 a0.f_proc),.pv (.sl (List.map z09 a0.f_vars)),.pv (.int .i64 j2.1)],oT false none 69 6 (List.map z04 a0.f_p.Chans),oR false 78 2 (List.map z0b a0.f_p.Procs),oR false 9 1 (List.map z09 a0.f_chans),oR true 9 1 (List.map z09 j2.2)]⟩) (zfh a0) (0,j1,a0.f_procs) (fun _=>⟨_,_,_,_,rfl⟩) h (by kernel_rfl) (fun x2 o h=>?_) (fun r' h=>?_) (fun j2 h=>?_)
  ·unfold z78 at h
   rcases iteE h with ⟨k4,h⟩|⟨k4,h⟩
   ·obtain ⟨v3,k5,h⟩:=z07 h
    obtain ⟨v4,k6,h⟩:=z07 h
    obtain rfl:=retE h
    exact fin (ok X) 12 [.b true,.e (z0d v3),.o [0,1,2,3,4,5,6,7,8,9,10,11],.s (zeq v4) (zer (z01.mk a0.f_s a0.f_p a0.f_chans x2.2.2 a0.f_proc a0.f_vars x2.2.1) v4)] (pA k4 (pA (ixm z0d k5) (pA (zjt (X:=X) k6) pT))) (by kernel_rfl)
   ·obtain rfl:=retE h
    exact fin (ok X) 5 [.b false] (pA k4 pT) (by kernel_rfl)
  ·cases h
  ·refine adv (ok X) 2 [.i (a0.f_s.Chans.length:Int)] (pA (lm z0c a0.f_s.Chans) pT) (by kernel_rfl) ?_
   refine lp (ok X) (z79 a0 j2) (fun (x3:(Int × Int × (List z0a)))=>⟨96,5,[(0,[xP 0 0]),(48,[xL (List.map z0c a0.f_s.Chans)]),(49,[xI (a0.f_s.Chans.length:Int)]),(50,[xI x3.1])],[oB 117 [.pv (.sl (List.map z0c a0.f_s.Chans)),.pv (.sl (List.map z0e a0.f_s.Rules)),.pv (.sl (List.map z0d a0.f_s.Procs)),.row 1,.row 2,.row 3,.row 4,.pv (.int .i64 a0.f_proc),.pv (.sl (List.map z09 a0.f_vars)),.pv (.int .i64 x3.2.1)],oT false none 69 6 (List.map z04 x3.2.2),oR false 78 2 (List.map z0b a0.f_p.Procs),oR false 9 1 (List.map z09 a0.f_chans),oR true 9 1 (List.map z09 j2.2)]⟩) (fun (j3:(Int × (List z0a)))=>⟨96,5,[],[oB 117 [.pv (.sl (List.map z0c a0.f_s.Chans)),.pv (.sl (List.map z0e a0.f_s.Rules)),.pv (.sl (List.map z0d a0.f_s.Procs)),.row 1,.row 2,.row 3,.row 4,.pv (.int .i64 a0.f_proc),.pv (.sl (List.map z09 a0.f_vars)),.pv (.int .i64 j3.1)],oT false none 69 6 (List.map z04 j3.2),oR false 78 2 (List.map z0b a0.f_p.Procs),oR false 9 1 (List.map z09 a0.f_chans),oR true 9 1 (List.map z09 j2.2)]⟩) (zfh a0) (0,j2.1,a0.f_p.Chans) (fun _=>⟨_,_,_,_,rfl⟩) h (by kernel_rfl) (fun x3 o h=>?_) (fun r' h=>?_) (fun j3 h=>?_)
   ·unfold z79 at h
    rcases iteE h with ⟨k7,h⟩|⟨k7,h⟩
    ·obtain ⟨v5,k8,h⟩:=z07 h
     obtain ⟨v6,k9,h⟩:=z07 h
     obtain ⟨v7,k10,h⟩:=z07 h
     obtain ⟨v8,k11,h⟩:=z07 h
     obtain ⟨v9,k12,h⟩:=z07 h
     obtain ⟨v10,k13,h⟩:=z07 h
     obtain ⟨v11,k14,h⟩:=z07 h
     obtain rfl:=retE h
     exact fin (ok X) 18 [.b true,.e (z0c v5),.e (z04 v6),.o [0,1,2,3,4,5,6,7,8,9,10,11],.s (zbr v7) (zbs (z01.mk a0.f_s (z18.mk x3.2.2 a0.f_p.Procs) a0.f_chans j2.2 a0.f_proc a0.f_vars x3.2.1) v7),.se (z04 v6) (List.map z04 (seti x3.2.2 x3.1 (z0a.mk v6.Kind v6.Size v7.2 v6.To v6.Tags v6.Rule))),.o [0,1,2,3,4,5,6,7,8,9,10,11],.s (zbr v8) (zbs (z01.mk a0.f_s (z18.mk (seti x3.2.2 x3.1 (z0a.mk v6.Kind v6.Size v7.2 v6.To v6.Tags v6.Rule)) a0.f_p.Procs) a0.f_chans j2.2 a0.f_proc a0.f_vars v7.1.f_e) v8),.se (z04 v9) (List.map z04 (seti (seti x3.2.2 x3.1 (z0a.mk v6.Kind v6.Size v7.2 v6.To v6.Tags v6.Rule)) x3.1 (z0a.mk v9.Kind v9.Size v9.From v8.2 v9.Tags v9.Rule))),.o [0,1,2,3,4,5,6,7,8,9,10],.e (z04 v10),.e (z04 v10),.s (z1y v11) (z1z (z01.mk a0.f_s (z18.mk (seti (seti x3.2.2 x3.1 (z0a.mk v6.Kind v6.Size v7.2 v6.To v6.Tags v6.Rule)) x3.1 (z0a.mk v9.Kind v9.Size v9.From v8.2 v9.Tags v9.Rule)) a0.f_p.Procs) a0.f_chans j2.2 a0.f_proc a0.f_vars v8.1.f_e) v11)] (pA k7 (pA (ixm z0c k8) (pA (ixm z04 k9) (pA (zf1 (X:=X) k10) (pA (rwm z04 k9) (pA (sem z04 x3.2.2 x3.1 (z0a.mk v6.Kind v6.Size v7.2 v6.To v6.Tags v6.Rule)) (pA (zf1 (X:=X) k11) (pA (rwm z04 k12) (pA (sem z04 (seti x3.2.2 x3.1 (z0a.mk v6.Kind v6.Size v7.2 v6.To v6.Tags v6.Rule)) x3.1 (z0a.mk v9.Kind v9.Size v9.From v8.2 v9.Tags v9.Rule)) (pA (rwm z04 k13) (pA (rwm z04 k13) (pA (z27 (X:=X) k14) pT)))))))))))) (by kernel_rfl)
    ·obtain rfl:=retE h
     exact fin (ok X) 5 [.b false] (pA k7 pT) (by kernel_rfl)
   ·cases h
   ·obtain rfl:=retE h
    exact fin (ok X) 0 [] pT (by kernel_rfl)
theorem zal {a0:z01} {a2:ByteArray} {r:(z01 × Int)} (h:z7a a0 a2=some r):Cs Tryz.prog (GX X) 73 [xP 0 0,xR 3,xS a2] [oB 117 [.pv (.sl (List.map z0c a0.f_s.Chans)),.pv (.sl (List.map z0e a0.f_s.Rules)),.pv (.sl (List.map z0d a0.f_s.Procs)),.row 1,.row 2,.row 3,.row 4,.pv (.int .i64 a0.f_proc),.pv (.sl (List.map z09 a0.f_vars)),.pv (.int .i64 a0.f_e)],oT false none 69 6 (List.map z04 a0.f_p.Chans),oR false 78 2 (List.map z0b a0.f_p.Procs),oR false 9 1 (List.map z09 a0.f_chans),oR false 9 1 (List.map z09 a0.f_procs)] (z8r r) (z8s a0 r):=by
 refine fnT (cx:=cx X) Tryz.f73 Tryz.call73 Tryz.func73 (by kernel_rfl) ?_
 unfold z7a at h
 obtain ⟨v1,k1,h⟩:=z07 h
 obtain ⟨v2,k2,h⟩:=z07 h
 obtain rfl:=retE h
 exact fin (ok X) 9 [.cb (z3v v1),.s (z1y v2) (z1z a0 v2)] (pA (z67 (X:=X) k1) (pA (z27 (X:=X) k2) pT)) (by kernel_rfl)
theorem zrn {a0:Int} {a1:Int} {r:(Int × Int)} (h:bits_Mul64 a0 a1=some r):Cv Tryz.prog (GX X) 165 [.c (.pv (.int .u64 a0)),.c (.pv (.int .u64 a1))] (zhx r):=by
 refine Cs.toV (?_:Cs Tryz.prog (GX X) 165 [.c (.pv (.int .u64 a0)),.c (.pv (.int .u64 a1))] [] (zhx r) (zrc r)) (by kernel_rfl)
 refine fnT (cx:=cx X) Tryz.f165 Tryz.call165 Tryz.func165 (by kernel_rfl) ?_
 unfold bits_Mul64 at h
 obtain ⟨v1,k1,h⟩:=z07 h
 obtain ⟨v2,k2,h⟩:=z07 h
 obtain ⟨v3,k3,h⟩:=z07 h
 obtain ⟨v4,k4,h⟩:=z07 h
 obtain ⟨v5,k5,h⟩:=z07 h
 obtain rfl:=retE h
 exact fin (ok X) 25 [.i v1,.i v2,.i v3,.i v4,.i v5] (pA k1 (pA k2 (pA k3 (pA k4 (pA k5 pT))))) (by kernel_rfl)
theorem zwz {a0:Int} {a1:Int} {r:(Int × Int)} (h:bits_Mul a0 a1=some r):Cv Tryz.prog (GX X) 144 [.c (.pv (.int .u64 a0)),.c (.pv (.int .u64 a1))] (zly r):=by
 refine Cs.toV (?_:Cs Tryz.prog (GX X) 144 [.c (.pv (.int .u64 a0)),.c (.pv (.int .u64 a1))] [] (zly r) (zws r)) (by kernel_rfl)
 refine fnT (cx:=cx X) Tryz.f144 Tryz.call144 Tryz.func144 (by kernel_rfl) ?_
 unfold bits_Mul at h
 obtain ⟨v1,k1,h⟩:=z07 h
 obtain rfl:=retE h
 exact fin (ok X) 10 [.b false,.c (zhx v1)] (pA ff (pA (zrn (X:=X) k1) pT)) (by kernel_rfl)
theorem zgk {a0:(List Int)} {a1:Int} {r:(List Int)} (h:z6z a0 a1=some r):Cs Tryz.prog (GX X) 118 [xL (List.map z71 a0),xI a1] [] (z9f r) (z9g r):=by
 refine fnT (cx:=cx X) Tryz.f118 Tryz.call118 Tryz.func118 (by kernel_rfl) ?_
 unfold z6z at h
 rcases iteE h with ⟨k1,h⟩|⟨k1,h⟩
 ·cases h
 ·obtain ⟨v1,k2,h⟩:=z07 h
  refine adv (ok X) 11 [.b false,.i (a0.length:Int),.c (zly v1)] (pA k1 (pA (lm z71 a0) (pA (zwz (X:=X) k2) pT))) (by kernel_rfl) ?_
  refine jn (ok X) 1 (fun (j1:Bool)=>⟨48,0,[(0,[xL (List.map z71 a0)]),(6,[.c (.pv (.int .u64 v1.2))]),(26,[xB j1])],[]⟩) h (fun j1 h=>?_) (fun j1 h=>?_)
  ·rcases iteE h with ⟨k3,h⟩|⟨k3,h⟩
   ·obtain rfl:=retE h
    exact fin (ok X) 1 (bT 3 []) (pR 3 k3 pT) (by kernel_rfl)
   ·obtain rfl:=retE h
    exact fin (ok X) 1 (bF 3 []) (pR 3 k3 pT) (by kernel_rfl)
  ·rcases iteE h with ⟨k4,h⟩|⟨k4,h⟩
   ·cases h
   ·obtain ⟨v2,k5,h⟩:=z07 h
    refine adv (ok X) 7 [.b false,.nm v2 (List.map z71 (List.replicate v2 (0:Int))),.i (min (a0.length:Int) ((List.replicate v2 (0:Int)).length:Int)),.l (List.map z71 (cpy (List.replicate v2 (0:Int)) a0))] (pA k4 (pA k5 (pA (rpm (p:=.int .i64 0) z71 v2 rfl) (pA (cpm1 zz5 a0) (pA (cpm2 z71 (List.replicate v2 (0:Int)) a0) (pA (cpm3 z71 (List.replicate v2 (0:Int)) a0) pT)))))) (by kernel_rfl) ?_
    refine lp (ok X) (z42) (fun (x2:(Int × (List Int)))=>⟨48,0,[(7,[xR 0]),(8,[xI x2.1])],[oR false 3 1 (List.map z71 x2.2)]⟩) (fun (j2:(List Int))=>⟨48,0,[(7,[xR 0])],[oR false 3 1 (List.map z71 j2)]⟩) zgg ((min (a0.length:Int) ((List.replicate v2 (0:Int)).length:Int)),(cpy (List.replicate v2 (0:Int)) a0)) (fun _=>⟨_,_,_,_,rfl⟩) h (by kernel_rfl) (fun x2 o h=>?_) (fun r' h=>?_) (fun j2 h=>?_)
    ·unfold z42 at h
     refine adv (ok X) 3 [.i (x2.2.length:Int)] (pA (lm z71 x2.2) pT) (by kernel_rfl) ?_
     rcases iteE h with ⟨k6,h⟩|⟨k6,h⟩
     ·obtain ⟨v3,k7,h⟩:=z07 h
      obtain ⟨v4,k8,h⟩:=z07 h
      obtain rfl:=retE h
      exact fin (ok X) 5 [.b true,.o [0,1,2,3,4,5,6,7,8,9],.pq v3.1 v3.2,.pq v4.1 v4.2,.i (min ((v4.2:Nat):Int) ((v3.2:Nat):Int)),.l (List.map z71 (pcp x2.2 v3.1 v4.1 (min v4.2 v3.2)))] (pA k6 (pA (psm0 z71 k7) (pA (psm z71 k8) (pA (psl z71 k7) (pA (psl z71 k8) (pA (z05b z71 x2.2 v3.1 v4.1 (min v4.2 v3.2)) (pA (rfl:(min ((v4.2:Nat):Int) ((v3.2:Nat):Int))=(min ((v4.2:Nat):Int) ((v3.2:Nat):Int))) pT))))))) (by kernel_rfl)
     ·obtain rfl:=retE h
      exact fin (ok X) 2 [.b false] (pA k6 pT) (by kernel_rfl)
    ·cases h
    ·obtain rfl:=retE h
     exact fin (ok X) 3 [] pT (by kernel_rfl)
theorem zj6 {a0:(List (List Int))} {a1:Int} {a2:Int} {r:((List (List Int)) × (List (List Int)))} (h:zc8 a0 a1 a2=some r):Cs Tryz.prog (GX X) 74 [xR 0,xI a1,xI a2] [oT false none 40 1 (List.map z5f a0)] (zdc r) (zdd r):=by
 refine fnT (cx:=cx X) Tryz.f74 Tryz.call74 Tryz.func74 (by kernel_rfl) ?_
 unfold zc8 at h
 refine adv (ok X) 3 [] pT (by kernel_rfl) ?_
 refine lp (ok X) (z9h a1 a2) (fun (x1:(List (List Int)))=>⟨18,1,[(0,[xR 0]),(1,[xI a1]),(2,[xI a2])],[oT true none 40 1 (List.map z5f x1)]⟩) (fun (j1:(List (List Int)))=>⟨18,1,[(0,[xR 0])],[oT true none 40 1 (List.map z5f j1)]⟩) zoe a0 (fun _=>⟨_,_,_,_,rfl⟩) h (by kernel_rfl) (fun x1 o h=>?_) (fun r' h=>?_) (fun j1 h=>?_)
 ·unfold z9h at h
  refine adv (ok X) 3 [.i (x1.length:Int)] (pA (lm z5f x1) pT) (by kernel_rfl) ?_
  rcases iteE h with ⟨k1,h⟩|⟨k1,h⟩
  ·obtain ⟨v1,k2,h⟩:=z07 h
   obtain ⟨v2,k3,h⟩:=z07 h
   refine adv (ok X) 4 [.b true,.s (z9f v1) (z9g v1),.ox,.ap [(0,true,3,1)] (List.map z5f x1++[[.os true 3 1 (List.map z71 [])]])] (pA k1 (pA (zgk (X:=X) k2) (pA (apt1 z5f k3) (pA (rfl:List.map z5f x1++[[.os true 3 1 (List.map z71 [])]]=List.map z5f x1++[[.os true 3 1 (List.map z71 [])]]) pT)))) (by kernel_rfl) ?_
   refine zg (.cl 0 [.os true 3 1 (List.map z71 [])] (List.map z5f v2)) (pA (apl1 z5f x1 []) (pA (apl2 z5f [] k3) pT)) (by kernel_rfl) ?_
   obtain rfl:=retE h
   exact fin (ok X) 1 [] pT (by kernel_rfl)
  ·obtain rfl:=retE h
   exact fin (ok X) 2 [.b false] (pA k1 pT) (by kernel_rfl)
 ·cases h
 ·obtain rfl:=retE h
  exact fin (ok X) 3 [] pT (by kernel_rfl)
theorem z5t {a0:z01} {a1:(List ByteArray)} {a2:ByteArray} {r:(z01 × Int)} (h:z2o a0 a1 a2=some r):Cs Tryz.prog (GX X) 73 [xP 0 0,xL (List.map z09 a1),xS a2] [oB 117 [.pv (.sl (List.map z0c a0.f_s.Chans)),.pv (.sl (List.map z0e a0.f_s.Rules)),.pv (.sl (List.map z0d a0.f_s.Procs)),.row 1,.row 2,.row 3,.row 4,.pv (.int .i64 a0.f_proc),.pv (.sl (List.map z09 a0.f_vars)),.pv (.int .i64 a0.f_e)],oT false none 69 6 (List.map z04 a0.f_p.Chans),oR false 78 2 (List.map z0b a0.f_p.Procs),oR false 9 1 (List.map z09 a0.f_chans),oR false 9 1 (List.map z09 a0.f_procs)] (z54 r) (z55 a0 r):=by
 refine fnT (cx:=cx X) Tryz.f73 Tryz.call73 Tryz.func73 (by kernel_rfl) ?_
 unfold z2o at h
 obtain ⟨v1,k1,h⟩:=z07 h
 obtain ⟨v2,k2,h⟩:=z07 h
 obtain rfl:=retE h
 exact fin (ok X) 9 [.c (z3v v1),.s (z1y v2) (z1z a0 v2)] (pA (z67 (X:=X) k1) (pA (z27 (X:=X) k2) pT)) (by kernel_rfl)
theorem zl0 {a0:z01} {a1:Int} {a2:z5d} {r:z01} (h:z8k a0 a1 a2=some r):Cs Tryz.prog (GX X) 75 [xP 0 0,xI a1,.agg (bs (z5x a2))] [oB 117 [.pv (.sl (List.map z0c a0.f_s.Chans)),.pv (.sl (List.map z0e a0.f_s.Rules)),.pv (.sl (List.map z0d a0.f_s.Procs)),.row 1,.row 2,.row 3,.row 4,.pv (.int .i64 a0.f_proc),.pv (.sl (List.map z09 a0.f_vars)),.pv (.int .i64 a0.f_e)],oT false none 69 6 (List.map z04 a0.f_p.Chans),oR false 78 2 (List.map z0b a0.f_p.Procs),oR false 9 1 (List.map z09 a0.f_chans),oR false 9 1 (List.map z09 a0.f_procs)] (zfi r) (zfj a0 r):=by
 refine fnT (cx:=cx X) Tryz.f75 Tryz.call75 Tryz.func75 (by kernel_rfl) ?_
 unfold z8k at h
 obtain ⟨v1,k1,h⟩:=z07 h
 obtain ⟨v2,k2,h⟩:=z07 h
 refine adv (ok X) 5 [.o [0,1,2,3,4,5,6,7,8,9,10,11,12,13],.e (z0c v1),.s (z54 v2) (z55 a0 v2)] (pA (ixm z0c k1) (pA (z5t (X:=X) k2) pT)) (by kernel_rfl) ?_
 refine jn (ok X) 1 (fun (j1:Int)=>⟨86,5,[(0,[xP 0 0]),(1,[xI a1]),(5,[xP 5 0]),(6,[xI v2.2])],[oB 117 [.pv (.sl (List.map z0c a0.f_s.Chans)),.pv (.sl (List.map z0e a0.f_s.Rules)),.pv (.sl (List.map z0d a0.f_s.Procs)),.row 1,.row 2,.row 3,.row 4,.pv (.int .i64 a0.f_proc),.pv (.sl (List.map z09 a0.f_vars)),.pv (.int .i64 j1)],oT false none 69 6 (List.map z04 a0.f_p.Chans),oR false 78 2 (List.map z0b a0.f_p.Procs),oR false 9 1 (List.map z09 a0.f_chans),oR false 9 1 (List.map z09 a0.f_procs),oB 127 (bs (z5x a2))]⟩) h (fun j1 h=>?_) (fun j1 h=>?_)
 ·rcases iteE h with ⟨k3,h⟩|⟨k3,h⟩
  ·obtain ⟨v3,k4,h⟩:=z07 h
   obtain rfl:=retE h
   exact fin (ok X) 1 (bT 4 [.s (z1y v3) (z1z (z01.mk a0.f_s a0.f_p a0.f_chans a0.f_procs a0.f_proc a0.f_vars v2.1.f_e) v3)]) (pR 4 k3 (pA (z27 (X:=X) k4) pT)) (by kernel_rfl)
  ·obtain ⟨v4,k5,h⟩:=z07 h
   obtain rfl:=retE h
   exact fin (ok X) 1 (bF 4 [.s (z1y v4) (z1z (z01.mk a0.f_s a0.f_p a0.f_chans a0.f_procs a0.f_proc a0.f_vars v2.1.f_e) v4)]) (pR 4 k3 (pA (z27 (X:=X) k5) pT)) (by kernel_rfl)
 ·rcases iteE h with ⟨k6,h⟩|⟨k6,h⟩
  ·obtain rfl:=retE h
   exact fin (ok X) 5 [.b true] (pA k6 pT) (by kernel_rfl)
  ·obtain ⟨v5,k7,h⟩:=z07 h
   refine adv (ok X) 8 [.b false,.e (z04 v5)] (pA k6 (pA (ixm z04 k7) pT)) (by kernel_rfl) ?_
   refine zg (.op 1 (a1).toNat 5 (z04 v5)) (pA (rwm z04 k7) pT) (by kernel_rfl) ?_
   obtain ⟨v6,k8,h⟩:=z07 h
   refine adv (ok X) 1 [.o [0,1,2,3,4,5,6,7,8,9,10,11,12,13,14,15,16,17],.ho (z04 v5),.e (z04 v5),.s (zdc v6) (zdd v6),.sh (z04 v5)] (pA (rwm z04 k7) (pA (rfl:(a1).toNat=(a1).toNat) (pA (rwm z04 k7) (pA (zj6 (X:=X) k8) (pA (rwm z04 k7) (pA (⟨rfl,rfl⟩:(a1).toNat=(a1).toNat∧(5:Nat)=5) pT)))))) (by kernel_rfl) ?_
   refine zg (.cl 1 (z04 v5) (List.map z04 (seti a0.f_p.Chans a1 (z0a.mk v5.Kind v5.Size v5.From v5.To v5.Tags v6.1)))) (pA (rwm z04 k7) (pA (sem z04 a0.f_p.Chans a1 (z0a.mk v5.Kind v5.Size v5.From v5.To v5.Tags v6.1)) pT)) (by kernel_rfl) ?_
   refine adv (ok X) 1 [] pT (by kernel_rfl) ?_
   obtain ⟨v7,k9,h⟩:=z07 h
   refine zg (.op 1 (a1).toNat 5 (z04 v7)) (pA (rwm z04 k9) pT) (by kernel_rfl) ?_
   obtain ⟨v8,k10,h⟩:=z07 h
   refine zg (.op 7 (a2.From).toNat 0 [.os true 3 1 (List.map z71 v8)]) (pA (rwm z5f k10) pT) (by kernel_rfl) ?_
   obtain ⟨v9,k11,h⟩:=z07 h
   obtain ⟨v10,k12,h⟩:=z07 h
   refine adv (ok X) 1 [.o [0,1,2,3,4,5,6,7,8,9,10,11,12,13],.ho (z04 v7),.e [.os true 3 1 (List.map z71 v8)],.ho [.os true 3 1 (List.map z71 v8)],.e [.int .i64 v9],.e [.int .i64 v9],.zc 7 [.os true 3 1 (List.map z71 v8)] (List.map z5f (seti v7.Rule a2.From v8)),.zc 1 (z04 v7) (List.map z04 (seti (seti a0.f_p.Chans a1 (z0a.mk v5.Kind v5.Size v5.From v5.To v5.Tags v6.1)) a1 (z0a.mk v7.Kind v7.Size v7.From v7.To v7.Tags (seti v7.Rule a2.From v8)))),.s (z1y v10) (z1z (z01.mk a0.f_s (z18.mk (seti (seti a0.f_p.Chans a1 (z0a.mk v5.Kind v5.Size v5.From v5.To v5.Tags v6.1)) a1 (z0a.mk v7.Kind v7.Size v7.From v7.To v7.Tags (seti v7.Rule a2.From v8))) a0.f_p.Procs) a0.f_chans a0.f_procs a0.f_proc a0.f_vars j1) v10)] (pA (rwm z04 k9) (pA (rfl:(a1).toNat=(a1).toNat) (pA (ixm z5f k10) (pA (rwm z5f k10) (pA (rfl:(a2.From).toNat=(a2.From).toNat) (pA (ixm z71 k11) (pA (rwm z71 k11) (pA (rwm z5f k10) (pA (sem z5f v7.Rule a2.From v8) (pA (rwm z04 k9) (pA (sem z04 (seti a0.f_p.Chans a1 (z0a.mk v5.Kind v5.Size v5.From v5.To v5.Tags v6.1)) a1 (z0a.mk v7.Kind v7.Size v7.From v7.To v7.Tags (seti v7.Rule a2.From v8))) (pA (z27 (X:=X) k12) pT)))))))))))) (by kernel_rfl) ?_
   obtain ⟨v11,k13,h⟩:=z07 h
   refine zg (.op 1 (a1).toNat 5 (z04 v11)) (pA (rwm z04 k13) pT) (by kernel_rfl) ?_
   obtain ⟨v12,k14,h⟩:=z07 h
   refine zg (.op 9 (a2.From).toNat 0 [.os true 3 1 (List.map z71 v12)]) (pA (rwm z5f k14) pT) (by kernel_rfl) ?_
   obtain ⟨v13,k15,h⟩:=z07 h
   refine adv (ok X) 1 [.o [0,1,2,3,4,5,6,7,8,9,10,11,12],.ho (z04 v11),.e [.os true 3 1 (List.map z71 v12)],.ho [.os true 3 1 (List.map z71 v12)],.e [.int .i64 v13],.se [.int .i64 v13] (List.map z71 (seti v12 v2.2 a2.To))] (pA (rwm z04 k13) (pA (rfl:(a1).toNat=(a1).toNat) (pA (ixm z5f k14) (pA (rwm z5f k14) (pA (rfl:(a2.From).toNat=(a2.From).toNat) (pA (ixm z71 k15) (pA (rwm z71 k15) (pA (sem z71 v12 v2.2 a2.To) pT)))))))) (by kernel_rfl) ?_
   refine zg (.cl 9 [.os true 3 1 (List.map z71 v12)] (List.map z5f (seti v11.Rule a2.From (seti v12 v2.2 a2.To)))) (pA (rwm z5f k14) (pA (sem z5f v11.Rule a2.From (seti v12 v2.2 a2.To)) pT)) (by kernel_rfl) ?_
   refine zg (.cl 1 (z04 v11) (List.map z04 (seti (seti (seti a0.f_p.Chans a1 (z0a.mk v5.Kind v5.Size v5.From v5.To v5.Tags v6.1)) a1 (z0a.mk v7.Kind v7.Size v7.From v7.To v7.Tags (seti v7.Rule a2.From v8))) a1 (z0a.mk v11.Kind v11.Size v11.From v11.To v11.Tags (seti v11.Rule a2.From (seti v12 v2.2 a2.To)))))) (pA (rwm z04 k13) (pA (sem z04 (seti (seti a0.f_p.Chans a1 (z0a.mk v5.Kind v5.Size v5.From v5.To v5.Tags v6.1)) a1 (z0a.mk v7.Kind v7.Size v7.From v7.To v7.Tags (seti v7.Rule a2.From v8))) a1 (z0a.mk v11.Kind v11.Size v11.From v11.To v11.Tags (seti v11.Rule a2.From (seti v12 v2.2 a2.To)))) pT)) (by kernel_rfl) ?_
   obtain rfl:=retE h
   exact fin (ok X) 0 [] pT (by kernel_rfl)
theorem zl1 {a0:z01} {a1:z3e} {r:z01} (h:z8l a0 a1=some r):Cs Tryz.prog (GX X) 35 [xP 0 0,.agg (bs (z0e a1))] [oB 117 [.pv (.sl (List.map z0c a0.f_s.Chans)),.pv (.sl (List.map z0e a0.f_s.Rules)),.pv (.sl (List.map z0d a0.f_s.Procs)),.row 1,.row 2,.row 3,.row 4,.pv (.int .i64 a0.f_proc),.pv (.sl (List.map z09 a0.f_vars)),.pv (.int .i64 a0.f_e)],oT false none 69 6 (List.map z04 a0.f_p.Chans),oR false 78 2 (List.map z0b a0.f_p.Procs),oR false 9 1 (List.map z09 a0.f_chans),oR false 9 1 (List.map z09 a0.f_procs)] (zcm r) (zcn a0 r):=by
 refine fnT (cx:=cx X) Tryz.f35 Tryz.call35 Tryz.func35 (by kernel_rfl) ?_
 unfold z8l at h
 obtain ⟨v1,k1,h⟩:=z07 h
 refine adv (ok X) 7 [.o [0,1,2,3,4,5,6,7,8],.s (z8r v1) (z8s a0 v1)] (pA (zal (X:=X) k1) pT) (by kernel_rfl) ?_
 rcases iteE h with ⟨k2,h⟩|⟨k2,h⟩
 ·obtain rfl:=retE h
  exact fin (ok X) 2 [.b true] (pA k2 pT) (by kernel_rfl)
 ·refine adv (ok X) 3 [.b false] (pA k2 pT) (by kernel_rfl) ?_
  obtain ⟨v2,k3,h⟩:=z07 h
  refine zg (.op 1 (v1.2).toNat 5 (z04 v2)) (pA (rwm z04 k3) pT) (by kernel_rfl) ?_
  obtain ⟨v3,k4,h⟩:=z07 h
  refine adv (ok X) 2 [.e (z04 v2),.ho (z04 v2),.i (v2.Rule.length:Int),.zc 1 (z04 v2) (List.map z04 (seti a0.f_p.Chans v1.2 v2)),.s (z1y v3) (z1z (z01.mk a0.f_s (z18.mk (seti a0.f_p.Chans v1.2 v2) a0.f_p.Procs) a0.f_chans a0.f_procs a0.f_proc a0.f_vars v1.1.f_e) v3)] (pA (ixm z04 k3) (pA (rwm z04 k3) (pA (rfl:(v1.2).toNat=(v1.2).toNat) (pA (lm z5f v2.Rule) (pA (rwm z04 k3) (pA (sem z04 a0.f_p.Chans v1.2 v2) (pA (z27 (X:=X) k4) pT))))))) (by kernel_rfl) ?_
  obtain ⟨v4,k5,h⟩:=z07 h
  refine zg (.op 1 (v1.2).toNat 5 (z04 v4)) (pA (rwm z04 k5) pT) (by kernel_rfl) ?_
  obtain ⟨v5,k6,h⟩:=z07 h
  refine adv (ok X) 1 [.o [0,1,2,3,4,5,6,7,8,9,10,11,12,13,14,15,16,17,18,19,20,21,22,23,24,25,26,27],.e (z04 v4),.ho (z04 v4),.e (z04 v4),.e (z04 v4),.s (zdc v5) (zdd v5),.e (z04 v4),.sh (z04 v4)] (pA (ixm z04 k5) (pA (rwm z04 k5) (pA (rfl:(v1.2).toNat=(v1.2).toNat) (pA (ixm z04 k5) (pA (rwm z04 k5) (pA (zj6 (X:=X) k6) (pA (ixm z04 k5) (pA (rwm z04 k5) (pA (⟨rfl,rfl⟩:(v1.2).toNat=(v1.2).toNat∧(5:Nat)=5) pT))))))))) (by kernel_rfl) ?_
  refine zg (.cl 1 (z04 v4) (List.map z04 (seti (seti a0.f_p.Chans v1.2 v2) v1.2 (z0a.mk v4.Kind v4.Size v4.From v4.To v4.Tags v5.1)))) (pA (rwm z04 k5) (pA (sem z04 (seti a0.f_p.Chans v1.2 v2) v1.2 (z0a.mk v4.Kind v4.Size v4.From v4.To v4.Tags v5.1)) pT)) (by kernel_rfl) ?_
  refine adv (ok X) 2 [.i (a1.Moves.length:Int)] (pA (lm z5x a1.Moves) pT) (by kernel_rfl) ?_
  refine lp (ok X) (z7b a0 a1 v1) (fun (x1:(Int × Int × (List z0a)))=>⟨72,5,[(0,[xP 0 0]),(4,[xI v1.2]),(61,[xL (List.map z5x a1.Moves)]),(62,[xI (a1.Moves.length:Int)]),(63,[xI x1.1])],[oB 117 [.pv (.sl (List.map z0c a0.f_s.Chans)),.pv (.sl (List.map z0e a0.f_s.Rules)),.pv (.sl (List.map z0d a0.f_s.Procs)),.row 1,.row 2,.row 3,.row 4,.pv (.int .i64 a0.f_proc),.pv (.sl (List.map z09 a0.f_vars)),.pv (.int .i64 x1.2.1)],oT false none 69 6 (List.map z04 x1.2.2),oR false 78 2 (List.map z0b a0.f_p.Procs),oR false 9 1 (List.map z09 a0.f_chans),oR false 9 1 (List.map z09 a0.f_procs)]⟩) (fun (j1:(Int × (List z0a)))=>⟨72,5,[],[oB 117 [.pv (.sl (List.map z0c a0.f_s.Chans)),.pv (.sl (List.map z0e a0.f_s.Rules)),.pv (.sl (List.map z0d a0.f_s.Procs)),.row 1,.row 2,.row 3,.row 4,.pv (.int .i64 a0.f_proc),.pv (.sl (List.map z09 a0.f_vars)),.pv (.int .i64 j1.1)],oT false none 69 6 (List.map z04 j1.2),oR false 78 2 (List.map z0b a0.f_p.Procs),oR false 9 1 (List.map z09 a0.f_chans),oR false 9 1 (List.map z09 a0.f_procs)]⟩) (zkk a0) (0,v3.f_e,(seti (seti a0.f_p.Chans v1.2 v2) v1.2 (z0a.mk v4.Kind v4.Size v4.From v4.To v4.Tags v5.1))) (fun _=>⟨_,_,_,_,rfl⟩) h (by kernel_rfl) (fun x1 o h=>?_) (fun r' h=>?_) (fun j1 h=>?_)
  ·unfold z7b at h
   rcases iteE h with ⟨k7,h⟩|⟨k7,h⟩
   ·obtain ⟨v6,k8,h⟩:=z07 h
    obtain ⟨v7,k9,h⟩:=z07 h
    obtain rfl:=retE h
    exact fin (ok X) 12 [.b true,.e (z5x v6),.s (zfi v7) (zfj (z01.mk a0.f_s (z18.mk x1.2.2 a0.f_p.Procs) a0.f_chans a0.f_procs a0.f_proc a0.f_vars x1.2.1) v7)] (pA k7 (pA (ixm z5x k8) (pA (zl0 (X:=X) k9) pT))) (by kernel_rfl)
   ·obtain rfl:=retE h
    exact fin (ok X) 5 [.b false] (pA k7 pT) (by kernel_rfl)
  ·cases h
  ·obtain rfl:=retE h
   exact fin (ok X) 0 [] pT (by kernel_rfl)
theorem zl2 {n:Nat} (ih_check_maker_expr:∀ (a0:z01) (a1:z06) (r:(z01 × z0v)),z2p n a0 a1=some r→Cs Tryz.prog (GX X) 145 [xP 0 0,.agg (bs (z0o a1))] [oB 117 [.pv (.sl (List.map z0c a0.f_s.Chans)),.pv (.sl (List.map z0e a0.f_s.Rules)),.pv (.sl (List.map z0d a0.f_s.Procs)),.row 1,.row 2,.row 3,.row 4,.pv (.int .i64 a0.f_proc),.pv (.sl (List.map z09 a0.f_vars)),.pv (.int .i64 a0.f_e)],oT false none 69 6 (List.map z04 a0.f_p.Chans),oR false 78 2 (List.map z0b a0.f_p.Procs),oR false 9 1 (List.map z09 a0.f_chans),oR false 9 1 (List.map z09 a0.f_procs)] (z4a r) (z4b a0 r)) (a0:z01) (a1:z06) (r:(z01 × z0v)) (h:z2p (n+1) a0 a1=some r):Cs Tryz.prog (GX X) 145 [xP 0 0,.agg (bs (z0o a1))] [oB 117 [.pv (.sl (List.map z0c a0.f_s.Chans)),.pv (.sl (List.map z0e a0.f_s.Rules)),.pv (.sl (List.map z0d a0.f_s.Procs)),.row 1,.row 2,.row 3,.row 4,.pv (.int .i64 a0.f_proc),.pv (.sl (List.map z09 a0.f_vars)),.pv (.int .i64 a0.f_e)],oT false none 69 6 (List.map z04 a0.f_p.Chans),oR false 78 2 (List.map z0b a0.f_p.Procs),oR false 9 1 (List.map z09 a0.f_chans),oR false 9 1 (List.map z09 a0.f_procs)] (z4a r) (z4b a0 r):=by
 refine fnT (cx:=cx X) Tryz.f145 Tryz.call145 Tryz.func145 (by kernel_rfl) ?_
 rw [z2p] at h
 rcases iteE h with ⟨k1,h⟩|⟨k1,h⟩
 ·refine adv (ok X) 16 [.b true,.i (a1.Kids.length:Int)] (pA k1 (pA (lm z1o a1.Kids) pT)) (by kernel_rfl) ?_
  refine lp (ok X) (z59 (z2p n) a0 a1) (fun (x1:(Int × Int × (List z0v)))=>⟨46,5,[(0,[xP 0 0]),(4,[xP 6 0]),(5,[xP 7 0]),(30,[xL (List.map z1o a1.Kids)]),(31,[xI (a1.Kids.length:Int)]),(32,[xI x1.1])],[oB 117 [.pv (.sl (List.map z0c a0.f_s.Chans)),.pv (.sl (List.map z0e a0.f_s.Rules)),.pv (.sl (List.map z0d a0.f_s.Procs)),.row 1,.row 2,.row 3,.row 4,.pv (.int .i64 a0.f_proc),.pv (.sl (List.map z09 a0.f_vars)),.pv (.int .i64 x1.2.1)],oT false none 69 6 (List.map z04 a0.f_p.Chans),oR false 78 2 (List.map z0b a0.f_p.Procs),oR false 9 1 (List.map z09 a0.f_chans),oR false 9 1 (List.map z09 a0.f_procs),none,oB 183 [.pv (.int .i64 0),.pv (.int .i64 0),.pv (.int .i64 0),.emp],oB 183 [.pv (.int .i64 a1.Kind),.pv (.int .i64 a1.Num),.pv (.int .i64 0),.row 8],oR true 183 4 (List.map z1m x1.2.2)]⟩) (fun (j1:(Int × (List z0v)))=>⟨46,5,[(4,[xP 6 0]),(5,[xP 7 0])],[oB 117 [.pv (.sl (List.map z0c a0.f_s.Chans)),.pv (.sl (List.map z0e a0.f_s.Rules)),.pv (.sl (List.map z0d a0.f_s.Procs)),.row 1,.row 2,.row 3,.row 4,.pv (.int .i64 a0.f_proc),.pv (.sl (List.map z09 a0.f_vars)),.pv (.int .i64 j1.1)],oT false none 69 6 (List.map z04 a0.f_p.Chans),oR false 78 2 (List.map z0b a0.f_p.Procs),oR false 9 1 (List.map z09 a0.f_chans),oR false 9 1 (List.map z09 a0.f_procs),none,oB 183 [.pv (.int .i64 0),.pv (.int .i64 0),.pv (.int .i64 0),.emp],oB 183 [.pv (.int .i64 a1.Kind),.pv (.int .i64 a1.Num),.pv (.int .i64 0),.row 8],oR true 183 4 (List.map z1m j1.2)]⟩) (zco a0) (0,a0.f_e,[]) (fun _=>⟨_,_,_,_,rfl⟩) h (by kernel_rfl) (fun x1 o h=>?_) (fun r' h=>?_) (fun j1 h=>?_)
  ·unfold z59 at h
   rcases iteE h with ⟨k2,h⟩|⟨k2,h⟩
   ·obtain ⟨v1,k3,h⟩:=z07 h
    obtain ⟨v2,k4,h⟩:=z07 h
    obtain ⟨v3,k5,h⟩:=z07 h
    obtain rfl:=retE h
    exact fin (ok X) 12 [.b true,.e (z0o v1),.o [0,1,2,3,4,5,6,7,8],.s (z4a v2) (z4b (z01.mk a0.f_s a0.f_p a0.f_chans a0.f_procs a0.f_proc a0.f_vars x1.2.1) v2),.bl (List.map z1m [v2.2]),.l (List.map z1m v3)] (pA k2 (pA (ixr z5e k3) (pA (ih_check_maker_expr _ _ _ k4) (pA (blc (e:=z1m) (x:=v2.2) (zad _).symm (bl0 z1m)) (pA (apm (L:=x1.2.2) (M:=[v2.2]) zdv k5) pT))))) (by kernel_rfl)
   ·obtain rfl:=retE h
    exact fin (ok X) 5 [.b false] (pA k2 pT) (by kernel_rfl)
  ·cases h
  ·obtain rfl:=retE h
   exact fin (ok X) 3 [] pT (by kernel_rfl)
 ·refine adv (ok X) 13 [.b false] (pA k1 pT) (by kernel_rfl) ?_
  rcases iteE h with ⟨k6,h⟩|⟨k6,h⟩
  ·obtain ⟨v4,k7,h⟩:=z07 h
   refine adv (ok X) 6 [.b true,.o [0,1,2,3,4,5,6,7,8,9],.s (z54 v4) (z55 a0 v4),.i (a1.Kids.length:Int)] (pA k6 (pA (z5t (X:=X) k7) (pA (lm z1o a1.Kids) pT))) (by kernel_rfl) ?_
   refine lp (ok X) (z9p (z2p n) a0 a1) (fun (x2:(Int × Int × (List z0v)))=>⟨46,5,[(0,[xP 0 0]),(4,[xP 6 0]),(5,[xP 7 0]),(30,[xL (List.map z1o a1.Kids)]),(31,[xI (a1.Kids.length:Int)]),(32,[xI x2.1])],[oB 117 [.pv (.sl (List.map z0c a0.f_s.Chans)),.pv (.sl (List.map z0e a0.f_s.Rules)),.pv (.sl (List.map z0d a0.f_s.Procs)),.row 1,.row 2,.row 3,.row 4,.pv (.int .i64 a0.f_proc),.pv (.sl (List.map z09 a0.f_vars)),.pv (.int .i64 x2.2.1)],oT false none 69 6 (List.map z04 a0.f_p.Chans),oR false 78 2 (List.map z0b a0.f_p.Procs),oR false 9 1 (List.map z09 a0.f_chans),oR false 9 1 (List.map z09 a0.f_procs),none,oB 183 [.pv (.int .i64 0),.pv (.int .i64 0),.pv (.int .i64 0),.emp],oB 183 [.pv (.int .i64 a1.Kind),.pv (.int .i64 0),.pv (.int .i64 v4.2),.row 8],oR true 183 4 (List.map z1m x2.2.2)]⟩) (fun (j2:(Int × (List z0v)))=>⟨46,5,[(4,[xP 6 0]),(5,[xP 7 0])],[oB 117 [.pv (.sl (List.map z0c a0.f_s.Chans)),.pv (.sl (List.map z0e a0.f_s.Rules)),.pv (.sl (List.map z0d a0.f_s.Procs)),.row 1,.row 2,.row 3,.row 4,.pv (.int .i64 a0.f_proc),.pv (.sl (List.map z09 a0.f_vars)),.pv (.int .i64 j2.1)],oT false none 69 6 (List.map z04 a0.f_p.Chans),oR false 78 2 (List.map z0b a0.f_p.Procs),oR false 9 1 (List.map z09 a0.f_chans),oR false 9 1 (List.map z09 a0.f_procs),none,oB 183 [.pv (.int .i64 0),.pv (.int .i64 0),.pv (.int .i64 0),.emp],oB 183 [.pv (.int .i64 a1.Kind),.pv (.int .i64 0),.pv (.int .i64 v4.2),.row 8],oR true 183 4 (List.map z1m j2.2)]⟩) (zco a0) (0,v4.1.f_e,[]) (fun _=>⟨_,_,_,_,rfl⟩) h (by kernel_rfl) (fun x2 o h=>?_) (fun r' h=>?_) (fun j2 h=>?_)
   ·unfold z9p at h
    rcases iteE h with ⟨k8,h⟩|⟨k8,h⟩
    ·obtain ⟨v5,k9,h⟩:=z07 h
     obtain ⟨v6,k10,h⟩:=z07 h
     obtain ⟨v7,k11,h⟩:=z07 h
     obtain rfl:=retE h
     exact fin (ok X) 12 [.b true,.e (z0o v5),.o [0,1,2,3,4,5,6,7,8],.s (z4a v6) (z4b (z01.mk a0.f_s a0.f_p a0.f_chans a0.f_procs a0.f_proc a0.f_vars x2.2.1) v6),.bl (List.map z1m [v6.2]),.l (List.map z1m v7)] (pA k8 (pA (ixr z5e k9) (pA (ih_check_maker_expr _ _ _ k10) (pA (blc (e:=z1m) (x:=v6.2) (zad _).symm (bl0 z1m)) (pA (apm (L:=x2.2.2) (M:=[v6.2]) zdv k11) pT))))) (by kernel_rfl)
    ·obtain rfl:=retE h
     exact fin (ok X) 5 [.b false] (pA k8 pT) (by kernel_rfl)
   ·cases h
   ·obtain rfl:=retE h
    exact fin (ok X) 3 [] pT (by kernel_rfl)
  ·refine adv (ok X) 6 [.b false,.i (a1.Kids.length:Int)] (pA k6 (pA (lm z1o a1.Kids) pT)) (by kernel_rfl) ?_
   refine lp (ok X) (z9q (z2p n) a0 a1) (fun (x3:(Int × Int × (List z0v)))=>⟨46,5,[(0,[xP 0 0]),(4,[xP 6 0]),(5,[xP 7 0]),(30,[xL (List.map z1o a1.Kids)]),(31,[xI (a1.Kids.length:Int)]),(32,[xI x3.1])],[oB 117 [.pv (.sl (List.map z0c a0.f_s.Chans)),.pv (.sl (List.map z0e a0.f_s.Rules)),.pv (.sl (List.map z0d a0.f_s.Procs)),.row 1,.row 2,.row 3,.row 4,.pv (.int .i64 a0.f_proc),.pv (.sl (List.map z09 a0.f_vars)),.pv (.int .i64 x3.2.1)],oT false none 69 6 (List.map z04 a0.f_p.Chans),oR false 78 2 (List.map z0b a0.f_p.Procs),oR false 9 1 (List.map z09 a0.f_chans),oR false 9 1 (List.map z09 a0.f_procs),none,oB 183 [.pv (.int .i64 0),.pv (.int .i64 0),.pv (.int .i64 0),.emp],oB 183 [.pv (.int .i64 a1.Kind),.pv (.int .i64 0),.pv (.int .i64 0),.row 8],oR true 183 4 (List.map z1m x3.2.2)]⟩) (fun (j3:(Int × (List z0v)))=>⟨46,5,[(4,[xP 6 0]),(5,[xP 7 0])],[oB 117 [.pv (.sl (List.map z0c a0.f_s.Chans)),.pv (.sl (List.map z0e a0.f_s.Rules)),.pv (.sl (List.map z0d a0.f_s.Procs)),.row 1,.row 2,.row 3,.row 4,.pv (.int .i64 a0.f_proc),.pv (.sl (List.map z09 a0.f_vars)),.pv (.int .i64 j3.1)],oT false none 69 6 (List.map z04 a0.f_p.Chans),oR false 78 2 (List.map z0b a0.f_p.Procs),oR false 9 1 (List.map z09 a0.f_chans),oR false 9 1 (List.map z09 a0.f_procs),none,oB 183 [.pv (.int .i64 0),.pv (.int .i64 0),.pv (.int .i64 0),.emp],oB 183 [.pv (.int .i64 a1.Kind),.pv (.int .i64 0),.pv (.int .i64 0),.row 8],oR true 183 4 (List.map z1m j3.2)]⟩) (zco a0) (0,a0.f_e,[]) (fun _=>⟨_,_,_,_,rfl⟩) h (by kernel_rfl) (fun x3 o h=>?_) (fun r' h=>?_) (fun j3 h=>?_)
   ·unfold z9q at h
    rcases iteE h with ⟨k12,h⟩|⟨k12,h⟩
    ·obtain ⟨v8,k13,h⟩:=z07 h
     obtain ⟨v9,k14,h⟩:=z07 h
     obtain ⟨v10,k15,h⟩:=z07 h
     obtain rfl:=retE h
     exact fin (ok X) 12 [.b true,.e (z0o v8),.o [0,1,2,3,4,5,6,7,8],.s (z4a v9) (z4b (z01.mk a0.f_s a0.f_p a0.f_chans a0.f_procs a0.f_proc a0.f_vars x3.2.1) v9),.bl (List.map z1m [v9.2]),.l (List.map z1m v10)] (pA k12 (pA (ixr z5e k13) (pA (ih_check_maker_expr _ _ _ k14) (pA (blc (e:=z1m) (x:=v9.2) (zad _).symm (bl0 z1m)) (pA (apm (L:=x3.2.2) (M:=[v9.2]) zdv k15) pT))))) (by kernel_rfl)
    ·obtain rfl:=retE h
     exact fin (ok X) 5 [.b false] (pA k12 pT) (by kernel_rfl)
   ·cases h
   ·obtain rfl:=retE h
    exact fin (ok X) 3 [] pT (by kernel_rfl)
theorem ze4:∀ n:Nat,(∀ (a0:z01) (a1:z06) (r:(z01 × z0v)),z2p n a0 a1=some r→Cs Tryz.prog (GX X) 145 [xP 0 0,.agg (bs (z0o a1))] [oB 117 [.pv (.sl (List.map z0c a0.f_s.Chans)),.pv (.sl (List.map z0e a0.f_s.Rules)),.pv (.sl (List.map z0d a0.f_s.Procs)),.row 1,.row 2,.row 3,.row 4,.pv (.int .i64 a0.f_proc),.pv (.sl (List.map z09 a0.f_vars)),.pv (.int .i64 a0.f_e)],oT false none 69 6 (List.map z04 a0.f_p.Chans),oR false 78 2 (List.map z0b a0.f_p.Procs),oR false 9 1 (List.map z09 a0.f_chans),oR false 9 1 (List.map z09 a0.f_procs)] (z4a r) (z4b a0 r))
 | 0=>(fun _ _ _ h=>by rw [z2p] at h;cases h)
 | n+1=>by
  have ih:=ze4 n
  exact zl2 ih
theorem za7 {a0:z01} {a1:z06} {r:(z01 × z0v)} (h:z66 a0 a1=some r):Cs Tryz.prog (GX X) 145 [xP 0 0,.agg (bs (z0o a1))] [oB 117 [.pv (.sl (List.map z0c a0.f_s.Chans)),.pv (.sl (List.map z0e a0.f_s.Rules)),.pv (.sl (List.map z0d a0.f_s.Procs)),.row 1,.row 2,.row 3,.row 4,.pv (.int .i64 a0.f_proc),.pv (.sl (List.map z09 a0.f_vars)),.pv (.int .i64 a0.f_e)],oT false none 69 6 (List.map z04 a0.f_p.Chans),oR false 78 2 (List.map z0b a0.f_p.Procs),oR false 9 1 (List.map z09 a0.f_chans),oR false 9 1 (List.map z09 a0.f_procs)] (z4a r) (z4b a0 r):=by
 obtain ⟨n,hn⟩:=unfE h
 exact (ze4 n) _ _ _ hn
theorem zcr {a0:z01} {a1:z4j} {r:(z01 × z5w)} (h:z5v a0 a1=some r):Cs Tryz.prog (GX X) 146 [xP 0 0,.agg (bs (zg8 a1))] [oB 117 [.pv (.sl (List.map z0c a0.f_s.Chans)),.pv (.sl (List.map z0e a0.f_s.Rules)),.pv (.sl (List.map z0d a0.f_s.Procs)),.row 1,.row 2,.row 3,.row 4,.pv (.int .i64 a0.f_proc),.pv (.sl (List.map z09 a0.f_vars)),.pv (.int .i64 a0.f_e)],oT false none 69 6 (List.map z04 a0.f_p.Chans),oR false 78 2 (List.map z0b a0.f_p.Procs),oR false 9 1 (List.map z09 a0.f_chans),oR false 9 1 (List.map z09 a0.f_procs)] (za5 r) (za6 a0 r):=by
 refine fnT (cx:=cx X) Tryz.f146 Tryz.call146 Tryz.func146 (by kernel_rfl) ?_
 unfold z5v at h
 obtain ⟨v1,k1,h⟩:=z07 h
 obtain ⟨v2,k2,h⟩:=z07 h
 obtain rfl:=retE h
 exact fin (ok X) 7 [.s (z4a v1) (z4b a0 v1),.o [0,1,2,3,4,5,6,7,8],.s (z4a v2) (z4b (z01.mk a0.f_s a0.f_p a0.f_chans a0.f_procs a0.f_proc a0.f_vars v1.1.f_e) v2)] (pA (za7 (X:=X) k1) (pA (za7 (X:=X) k2) pT)) (by kernel_rfl)
theorem zro {a0:z0a} {r:Int} (h:zlz a0=some r):Cv Tryz.prog (GX X) 104 [.agg [.pv (.int .i64 a0.Kind),.pv (.int .i64 a0.Size),.pv (.int .i64 a0.From),.pv (.int .i64 a0.To),.pv (.int .i64 a0.Tags),.any]] (zhy r):=by
 refine Cs.toV (?_:Cs Tryz.prog (GX X) 104 [.agg [.pv (.int .i64 a0.Kind),.pv (.int .i64 a0.Size),.pv (.int .i64 a0.From),.pv (.int .i64 a0.To),.pv (.int .i64 a0.Tags),.any]] [] (zhy r) (zrd r)) (by kernel_rfl)
 refine fnT (cx:=cx X) Tryz.f104 Tryz.call104 Tryz.func104 (by kernel_rfl) ?_
 unfold zlz at h
 obtain rfl:=retE h
 exact fin (ok X) 5 [] pT (by kernel_rfl)
theorem zct {a0:z01} {a1:ByteArray} {r:(z01 × Int × (List ByteArray))} (h:z4k a0 a1=some r):Cs Tryz.prog (GX X) 166 [xP 0 0,xS a1,.fn (.func 104) [] []] [oB 117 [.pv (.sl (List.map z0c a0.f_s.Chans)),.pv (.sl (List.map z0e a0.f_s.Rules)),.pv (.sl (List.map z0d a0.f_s.Procs)),.row 1,.row 2,.row 3,.row 4,.pv (.int .i64 a0.f_proc),.pv (.sl (List.map z09 a0.f_vars)),.pv (.int .i64 a0.f_e)],oT false none 69 6 (List.map z04 a0.f_p.Chans),oR false 78 2 (List.map z0b a0.f_p.Procs),oR false 9 1 (List.map z09 a0.f_chans),oR false 9 1 (List.map z09 a0.f_procs)] (z96 r) (z97 a0 r):=by
 refine fnT (cx:=cx X) Tryz.f166 Tryz.call166 Tryz.func166 (by kernel_rfl) ?_
 unfold z4k at h
 obtain ⟨v1,k1,h⟩:=z07 h
 refine adv (ok X) 7 [.s (z8r v1) (z8s a0 v1)] (pA (zal (X:=X) k1) pT) (by kernel_rfl) ?_
 rcases iteE h with ⟨k2,h⟩|⟨k2,h⟩
 ·obtain rfl:=retE h
  exact fin (ok X) 4 [.b true] (pA k2 pT) (by kernel_rfl)
 ·obtain ⟨v2,k3,h⟩:=z07 h
  obtain ⟨v3,k4,h⟩:=z07 h
  obtain ⟨v4,k5,h⟩:=z07 h
  obtain ⟨v5,k6,h⟩:=z07 h
  obtain rfl:=retE h
  exact fin (ok X) 7 [.b false,.o [0,1,2,3,4,5,6,7,8,9,10,11,12,13,14,15,16],.e (z04 v2),.e (z04 v2),.c (zhy v3),.s (z1y v4) (z1z (z01.mk a0.f_s a0.f_p a0.f_chans a0.f_procs a0.f_proc a0.f_vars v1.1.f_e) v4),.o [0,1,2,3,4,5,6,7,8,9,10,11],.e (z0c v5)] (pA k2 (pA (ixm z04 k3) (pA (rwm z04 k3) (pA (zro (X:=X) k4) (pA (z27 (X:=X) k5) (pA (ixm z0c k6) pT)))))) (by kernel_rfl)
theorem zl3 {a0:z01} {a1:z05} {r:(z01 × z0h)} (h:zbl a0 a1=some r):Cs Tryz.prog (GX X) 147 [xP 0 0,.agg (bs (z47 a1))] [oB 117 [.pv (.sl (List.map z0c a0.f_s.Chans)),.pv (.sl (List.map z0e a0.f_s.Rules)),.pv (.sl (List.map z0d a0.f_s.Procs)),.row 1,.row 2,.row 3,.row 4,.pv (.int .i64 a0.f_proc),.pv (.sl (List.map z09 a0.f_vars)),.pv (.int .i64 a0.f_e)],oT false none 69 6 (List.map z04 a0.f_p.Chans),oR false 78 2 (List.map z0b a0.f_p.Procs),oR false 9 1 (List.map z09 a0.f_chans),oR false 9 1 (List.map z09 a0.f_procs)] (zfk r) (zfl a0 r):=by
 refine fnT (cx:=cx X) Tryz.f147 Tryz.call147 Tryz.func147 (by kernel_rfl) ?_
 unfold zbl at h
 obtain ⟨v1,k1,h⟩:=z07 h
 obtain ⟨v2,k2,h⟩:=z07 h
 obtain ⟨v3,k3,h⟩:=z07 h
 obtain rfl:=retE h
 exact fin (ok X) 9 [.s (z96 v1) (z97 a0 v1),.s (z54 v2) (z55 (z01.mk a0.f_s a0.f_p a0.f_chans a0.f_procs a0.f_proc a0.f_vars v1.1.f_e) v2),.o [0,1,2,3,4,5,6,7,8,9],.s (z4a v3) (z4b (z01.mk a0.f_s a0.f_p a0.f_chans a0.f_procs a0.f_proc a0.f_vars v2.1.f_e) v3)] (pA (zct (X:=X) k1) (pA (z5t (X:=X) k2) (pA (za7 (X:=X) k3) pT))) (by kernel_rfl)
theorem zx0 {a0:z0a} {r:Int} (h:zpv a0=some r):Cv Tryz.prog (GX X) 106 [.agg [.pv (.int .i64 a0.Kind),.pv (.int .i64 a0.Size),.pv (.int .i64 a0.From),.pv (.int .i64 a0.To),.pv (.int .i64 a0.Tags),.any]] (zm0 r):=by
 refine Cs.toV (?_:Cs Tryz.prog (GX X) 106 [.agg [.pv (.int .i64 a0.Kind),.pv (.int .i64 a0.Size),.pv (.int .i64 a0.From),.pv (.int .i64 a0.To),.pv (.int .i64 a0.Tags),.any]] [] (zm0 r) (zwt r)) (by kernel_rfl)
 refine fnT (cx:=cx X) Tryz.f106 Tryz.call106 Tryz.func106 (by kernel_rfl) ?_
 unfold zpv at h
 obtain rfl:=retE h
 exact fin (ok X) 5 [] pT (by kernel_rfl)
theorem zdo {a0:z01} {a1:ByteArray} {r:(z01 × Int × (List ByteArray))} (h:z4v a0 a1=some r):Cs Tryz.prog (GX X) 166 [xP 0 0,xS a1,.fn (.func 106) [] []] [oB 117 [.pv (.sl (List.map z0c a0.f_s.Chans)),.pv (.sl (List.map z0e a0.f_s.Rules)),.pv (.sl (List.map z0d a0.f_s.Procs)),.row 1,.row 2,.row 3,.row 4,.pv (.int .i64 a0.f_proc),.pv (.sl (List.map z09 a0.f_vars)),.pv (.int .i64 a0.f_e)],oT false none 69 6 (List.map z04 a0.f_p.Chans),oR false 78 2 (List.map z0b a0.f_p.Procs),oR false 9 1 (List.map z09 a0.f_chans),oR false 9 1 (List.map z09 a0.f_procs)] (z9k r) (z9l a0 r):=by
 refine fnT (cx:=cx X) Tryz.f166 Tryz.call166 Tryz.func166 (by kernel_rfl) ?_
 unfold z4v at h
 obtain ⟨v1,k1,h⟩:=z07 h
 refine adv (ok X) 7 [.s (z8r v1) (z8s a0 v1)] (pA (zal (X:=X) k1) pT) (by kernel_rfl) ?_
 rcases iteE h with ⟨k2,h⟩|⟨k2,h⟩
 ·obtain rfl:=retE h
  exact fin (ok X) 4 [.b true] (pA k2 pT) (by kernel_rfl)
 ·obtain ⟨v2,k3,h⟩:=z07 h
  obtain ⟨v3,k4,h⟩:=z07 h
  obtain ⟨v4,k5,h⟩:=z07 h
  obtain ⟨v5,k6,h⟩:=z07 h
  obtain rfl:=retE h
  exact fin (ok X) 7 [.b false,.o [0,1,2,3,4,5,6,7,8,9,10,11,12,13,14,15,16],.e (z04 v2),.e (z04 v2),.c (zm0 v3),.s (z1y v4) (z1z (z01.mk a0.f_s a0.f_p a0.f_chans a0.f_procs a0.f_proc a0.f_vars v1.1.f_e) v4),.o [0,1,2,3,4,5,6,7,8,9,10,11],.e (z0c v5)] (pA k2 (pA (ixm z04 k3) (pA (rwm z04 k3) (pA (zx0 (X:=X) k4) (pA (z27 (X:=X) k5) (pA (ixm z0c k6) pT)))))) (by kernel_rfl)
theorem zju {n:Nat} (ih_check_maker_stmts:∀ (a0:z01) (a1:(List z05)) (r:(z01 × (List z0h))),z1j n a0 a1=some r→Cs Tryz.prog (GX X) 76 [xP 0 0,xL (List.map z1e a1)] [oB 117 [.pv (.sl (List.map z0c a0.f_s.Chans)),.pv (.sl (List.map z0e a0.f_s.Rules)),.pv (.sl (List.map z0d a0.f_s.Procs)),.row 1,.row 2,.row 3,.row 4,.pv (.int .i64 a0.f_proc),.pv (.sl (List.map z09 a0.f_vars)),.pv (.int .i64 a0.f_e)],oT false none 69 6 (List.map z04 a0.f_p.Chans),oR false 78 2 (List.map z0b a0.f_p.Procs),oR false 9 1 (List.map z09 a0.f_chans),oR false 9 1 (List.map z09 a0.f_procs)] (z3w r) (z3x a0 r)) (ih_check_maker_stmt:∀ (a0:z01) (a1:z05) (r:(z01 × z0h)),z1u n a0 a1=some r→Cs Tryz.prog (GX X) 119 [xP 0 0,.agg (bs (z47 a1))] [oB 117 [.pv (.sl (List.map z0c a0.f_s.Chans)),.pv (.sl (List.map z0e a0.f_s.Rules)),.pv (.sl (List.map z0d a0.f_s.Procs)),.row 1,.row 2,.row 3,.row 4,.pv (.int .i64 a0.f_proc),.pv (.sl (List.map z09 a0.f_vars)),.pv (.int .i64 a0.f_e)],oT false none 69 6 (List.map z04 a0.f_p.Chans),oR false 78 2 (List.map z0b a0.f_p.Procs),oR false 9 1 (List.map z09 a0.f_chans),oR false 9 1 (List.map z09 a0.f_procs)] (z7o r) (z7p a0 r)) (ih_check_maker_recv:∀ (a0:z01) (a1:z05) (r:(z01 × z0h)),z36 n a0 a1=some r→Cs Tryz.prog (GX X) 148 [xP 0 0,.agg (bs (z47 a1))] [oB 117 [.pv (.sl (List.map z0c a0.f_s.Chans)),.pv (.sl (List.map z0e a0.f_s.Rules)),.pv (.sl (List.map z0d a0.f_s.Procs)),.row 1,.row 2,.row 3,.row 4,.pv (.int .i64 a0.f_proc),.pv (.sl (List.map z09 a0.f_vars)),.pv (.int .i64 a0.f_e)],oT false none 69 6 (List.map z04 a0.f_p.Chans),oR false 78 2 (List.map z0b a0.f_p.Procs),oR false 9 1 (List.map z09 a0.f_chans),oR false 9 1 (List.map z09 a0.f_procs)] (z6m r) (z6n a0 r)) (a0:z01) (a1:(List z05)) (r:(z01 × (List z0h))) (h:z1j (n+1) a0 a1=some r):Cs Tryz.prog (GX X) 76 [xP 0 0,xL (List.map z1e a1)] [oB 117 [.pv (.sl (List.map z0c a0.f_s.Chans)),.pv (.sl (List.map z0e a0.f_s.Rules)),.pv (.sl (List.map z0d a0.f_s.Procs)),.row 1,.row 2,.row 3,.row 4,.pv (.int .i64 a0.f_proc),.pv (.sl (List.map z09 a0.f_vars)),.pv (.int .i64 a0.f_e)],oT false none 69 6 (List.map z04 a0.f_p.Chans),oR false 78 2 (List.map z0b a0.f_p.Procs),oR false 9 1 (List.map z09 a0.f_chans),oR false 9 1 (List.map z09 a0.f_procs)] (z3w r) (z3x a0 r):=by
 refine fnT (cx:=cx X) Tryz.f76 Tryz.call76 Tryz.func76 (by kernel_rfl) ?_
 rw [z1j] at h
 refine adv (ok X) 7 [.i (a1.length:Int)] (pA (lm z1e a1) pT) (by kernel_rfl) ?_
 refine lp (ok X) (z60 (z1j n) (z1u n) (z36 n) a0 a1) (fun (x1:(Int × Int × (List z0h)))=>⟨27,5,[(0,[xP 0 0]),(5,[xR 5]),(8,[xL (List.map z1e a1)]),(9,[xI (a1.length:Int)]),(10,[xI x1.1])],[oB 117 [.pv (.sl (List.map z0c a0.f_s.Chans)),.pv (.sl (List.map z0e a0.f_s.Rules)),.pv (.sl (List.map z0d a0.f_s.Procs)),.row 1,.row 2,.row 3,.row 4,.pv (.int .i64 a0.f_proc),.pv (.sl (List.map z09 a0.f_vars)),.pv (.int .i64 x1.2.1)],oT false none 69 6 (List.map z04 a0.f_p.Chans),oR false 78 2 (List.map z0b a0.f_p.Procs),oR false 9 1 (List.map z09 a0.f_chans),oR false 9 1 (List.map z09 a0.f_procs),oR true 188 20 (List.map z2l x1.2.2)]⟩) (fun (j1:(Int × (List z0h)))=>⟨27,5,[(5,[xR 5])],[oB 117 [.pv (.sl (List.map z0c a0.f_s.Chans)),.pv (.sl (List.map z0e a0.f_s.Rules)),.pv (.sl (List.map z0d a0.f_s.Procs)),.row 1,.row 2,.row 3,.row 4,.pv (.int .i64 a0.f_proc),.pv (.sl (List.map z09 a0.f_vars)),.pv (.int .i64 j1.1)],oT false none 69 6 (List.map z04 a0.f_p.Chans),oR false 78 2 (List.map z0b a0.f_p.Procs),oR false 9 1 (List.map z09 a0.f_chans),oR false 9 1 (List.map z09 a0.f_procs),oR true 188 20 (List.map z2l j1.2)]⟩) (zjm a0) (0,a0.f_e,[]) (fun _=>⟨_,_,_,_,rfl⟩) h (by kernel_rfl) (fun x1 o h=>?_) (fun r' h=>?_) (fun j1 h=>?_)
 ·unfold z60 at h
  rcases iteE h with ⟨k1,h⟩|⟨k1,h⟩
  ·obtain ⟨v1,k2,h⟩:=z07 h
   refine adv (ok X) 12 [.b true,.e (z47 v1)] (pA k1 (pA (ixr zch k2) pT)) (by kernel_rfl) ?_
   rcases iteE h with ⟨k3,h⟩|⟨k3,h⟩
   ·obtain rfl:=retE h
    exact fin (ok X) 2 [.b true] (pA k3 pT) (by kernel_rfl)
   ·obtain ⟨v2,k4,h⟩:=z07 h
    obtain ⟨v3,k5,h⟩:=z07 h
    obtain rfl:=retE h
    exact fin (ok X) 5 [.b false,.s (z7o v2) (z7p (z01.mk a0.f_s a0.f_p a0.f_chans a0.f_procs a0.f_proc a0.f_vars x1.2.1) v2),.bl (List.map z2l [v2.2]),.l (List.map z2l v3)] (pA k3 (pA (ih_check_maker_stmt _ _ _ k4) (pA (blc (e:=z2l) (x:=v2.2) (zeo _).symm (bl0 z2l)) (pA (apm (L:=x1.2.2) (M:=[v2.2]) zms k5) pT)))) (by kernel_rfl)
  ·obtain rfl:=retE h
   exact fin (ok X) 5 [.b false] (pA k1 pT) (by kernel_rfl)
 ·cases h
 ·obtain rfl:=retE h
  exact fin (ok X) 3 [] pT (by kernel_rfl)
theorem zl4 {n:Nat} (ih_check_maker_stmts:∀ (a0:z01) (a1:(List z05)) (r:(z01 × (List z0h))),z1j n a0 a1=some r→Cs Tryz.prog (GX X) 76 [xP 0 0,xL (List.map z1e a1)] [oB 117 [.pv (.sl (List.map z0c a0.f_s.Chans)),.pv (.sl (List.map z0e a0.f_s.Rules)),.pv (.sl (List.map z0d a0.f_s.Procs)),.row 1,.row 2,.row 3,.row 4,.pv (.int .i64 a0.f_proc),.pv (.sl (List.map z09 a0.f_vars)),.pv (.int .i64 a0.f_e)],oT false none 69 6 (List.map z04 a0.f_p.Chans),oR false 78 2 (List.map z0b a0.f_p.Procs),oR false 9 1 (List.map z09 a0.f_chans),oR false 9 1 (List.map z09 a0.f_procs)] (z3w r) (z3x a0 r)) (ih_check_maker_stmt:∀ (a0:z01) (a1:z05) (r:(z01 × z0h)),z1u n a0 a1=some r→Cs Tryz.prog (GX X) 119 [xP 0 0,.agg (bs (z47 a1))] [oB 117 [.pv (.sl (List.map z0c a0.f_s.Chans)),.pv (.sl (List.map z0e a0.f_s.Rules)),.pv (.sl (List.map z0d a0.f_s.Procs)),.row 1,.row 2,.row 3,.row 4,.pv (.int .i64 a0.f_proc),.pv (.sl (List.map z09 a0.f_vars)),.pv (.int .i64 a0.f_e)],oT false none 69 6 (List.map z04 a0.f_p.Chans),oR false 78 2 (List.map z0b a0.f_p.Procs),oR false 9 1 (List.map z09 a0.f_chans),oR false 9 1 (List.map z09 a0.f_procs)] (z7o r) (z7p a0 r)) (ih_check_maker_recv:∀ (a0:z01) (a1:z05) (r:(z01 × z0h)),z36 n a0 a1=some r→Cs Tryz.prog (GX X) 148 [xP 0 0,.agg (bs (z47 a1))] [oB 117 [.pv (.sl (List.map z0c a0.f_s.Chans)),.pv (.sl (List.map z0e a0.f_s.Rules)),.pv (.sl (List.map z0d a0.f_s.Procs)),.row 1,.row 2,.row 3,.row 4,.pv (.int .i64 a0.f_proc),.pv (.sl (List.map z09 a0.f_vars)),.pv (.int .i64 a0.f_e)],oT false none 69 6 (List.map z04 a0.f_p.Chans),oR false 78 2 (List.map z0b a0.f_p.Procs),oR false 9 1 (List.map z09 a0.f_chans),oR false 9 1 (List.map z09 a0.f_procs)] (z6m r) (z6n a0 r)) (a0:z01) (a1:z05) (r:(z01 × z0h)) (h:z1u (n+1) a0 a1=some r):Cs Tryz.prog (GX X) 119 [xP 0 0,.agg (bs (z47 a1))] [oB 117 [.pv (.sl (List.map z0c a0.f_s.Chans)),.pv (.sl (List.map z0e a0.f_s.Rules)),.pv (.sl (List.map z0d a0.f_s.Procs)),.row 1,.row 2,.row 3,.row 4,.pv (.int .i64 a0.f_proc),.pv (.sl (List.map z09 a0.f_vars)),.pv (.int .i64 a0.f_e)],oT false none 69 6 (List.map z04 a0.f_p.Chans),oR false 78 2 (List.map z0b a0.f_p.Procs),oR false 9 1 (List.map z09 a0.f_chans),oR false 9 1 (List.map z09 a0.f_procs)] (z7o r) (z7p a0 r):=by
 refine fnT (cx:=cx X) Tryz.f119 Tryz.call119 Tryz.func119 (by kernel_rfl) ?_
 rw [z1u] at h
 rcases iteE h with ⟨k1,h⟩|⟨k1,h⟩
 ·obtain ⟨v1,k2,h⟩:=z07 h
  obtain ⟨v2,k3,h⟩:=z07 h
  obtain rfl:=retE h
  exact fin (ok X) 18 [.b true,.o [0,1,2,3,4,5,6,7,8,9],.s (z54 v1) (z55 a0 v1),.s (z4a v2) (z4b (z01.mk a0.f_s a0.f_p a0.f_chans a0.f_procs a0.f_proc a0.f_vars v1.1.f_e) v2)] (pA k1 (pA (z5t (X:=X) k2) (pA (za7 (X:=X) k3) pT))) (by kernel_rfl)
 ·refine adv (ok X) 13 [.b false] (pA k1 pT) (by kernel_rfl) ?_
  rcases iteE h with ⟨k4,h⟩|⟨k4,h⟩
  ·obtain ⟨v3,k5,h⟩:=z07 h
   obtain rfl:=retE h
   exact fin (ok X) 6 [.b true,.o [0,1,2,3,4,5,6,7,8,9],.s (z54 v3) (z55 a0 v3)] (pA k4 (pA (z5t (X:=X) k5) pT)) (by kernel_rfl)
  ·refine adv (ok X) 3 [.b false] (pA k4 pT) (by kernel_rfl) ?_
   rcases iteE h with ⟨k6,h⟩|⟨k6,h⟩
   ·obtain ⟨v4,k7,h⟩:=z07 h
    obtain rfl:=retE h
    exact fin (ok X) 6 [.b true,.s (za5 v4) (za6 a0 v4)] (pA k6 (pA (zcr (X:=X) k7) pT)) (by kernel_rfl)
   ·refine adv (ok X) 3 [.b false] (pA k6 pT) (by kernel_rfl) ?_
    rcases iteE h with ⟨k8,h⟩|⟨k8,h⟩
    ·obtain ⟨v5,k9,h⟩:=z07 h
     obtain ⟨v6,k10,h⟩:=z07 h
     obtain rfl:=retE h
     exact fin (ok X) 8 [.b true,.s (za5 v5) (za6 a0 v5),.s (z3w v6) (z3x (z01.mk a0.f_s a0.f_p a0.f_chans a0.f_procs a0.f_proc a0.f_vars v5.1.f_e) v6)] (pA k8 (pA (zcr (X:=X) k9) (pA (ih_check_maker_stmts _ _ _ k10) pT))) (by kernel_rfl)
    ·refine adv (ok X) 3 [.b false] (pA k8 pT) (by kernel_rfl) ?_
     rcases iteE h with ⟨k11,h⟩|⟨k11,h⟩
     ·obtain ⟨v7,k12,h⟩:=z07 h
      obtain ⟨v8,k13,h⟩:=z07 h
      obtain ⟨v9,k14,h⟩:=z07 h
      obtain rfl:=retE h
      exact fin (ok X) 10 [.b true,.s (za5 v7) (za6 a0 v7),.s (z3w v8) (z3x (z01.mk a0.f_s a0.f_p a0.f_chans a0.f_procs a0.f_proc a0.f_vars v7.1.f_e) v8),.s (z3w v9) (z3x (z01.mk a0.f_s a0.f_p a0.f_chans a0.f_procs a0.f_proc a0.f_vars v8.1.f_e) v9)] (pA k11 (pA (zcr (X:=X) k12) (pA (ih_check_maker_stmts _ _ _ k13) (pA (ih_check_maker_stmts _ _ _ k14) pT)))) (by kernel_rfl)
     ·refine adv (ok X) 3 [.b false] (pA k11 pT) (by kernel_rfl) ?_
      rcases iteE h with ⟨k15,h⟩|⟨k15,h⟩
      ·obtain ⟨v10,k16,h⟩:=z07 h
       obtain rfl:=retE h
       exact fin (ok X) 4 [.b true,.s (zfk v10) (zfl a0 v10)] (pA k15 (pA (zl3 (X:=X) k16) pT)) (by kernel_rfl)
      ·refine adv (ok X) 3 [.b false] (pA k15 pT) (by kernel_rfl) ?_
       rcases iteE h with ⟨k17,h⟩|⟨k17,h⟩
       ·obtain ⟨v11,k18,h⟩:=z07 h
        obtain rfl:=retE h
        exact fin (ok X) 4 [.b true,.s (z6m v11) (z6n a0 v11)] (pA k17 (pA (ih_check_maker_recv _ _ _ k18) pT)) (by kernel_rfl)
       ·obtain rfl:=retE h
        exact fin (ok X) 6 [.b false] (pA k17 pT) (by kernel_rfl)
theorem zl5 {n:Nat} (ih_check_maker_stmts:∀ (a0:z01) (a1:(List z05)) (r:(z01 × (List z0h))),z1j n a0 a1=some r→Cs Tryz.prog (GX X) 76 [xP 0 0,xL (List.map z1e a1)] [oB 117 [.pv (.sl (List.map z0c a0.f_s.Chans)),.pv (.sl (List.map z0e a0.f_s.Rules)),.pv (.sl (List.map z0d a0.f_s.Procs)),.row 1,.row 2,.row 3,.row 4,.pv (.int .i64 a0.f_proc),.pv (.sl (List.map z09 a0.f_vars)),.pv (.int .i64 a0.f_e)],oT false none 69 6 (List.map z04 a0.f_p.Chans),oR false 78 2 (List.map z0b a0.f_p.Procs),oR false 9 1 (List.map z09 a0.f_chans),oR false 9 1 (List.map z09 a0.f_procs)] (z3w r) (z3x a0 r)) (ih_check_maker_stmt:∀ (a0:z01) (a1:z05) (r:(z01 × z0h)),z1u n a0 a1=some r→Cs Tryz.prog (GX X) 119 [xP 0 0,.agg (bs (z47 a1))] [oB 117 [.pv (.sl (List.map z0c a0.f_s.Chans)),.pv (.sl (List.map z0e a0.f_s.Rules)),.pv (.sl (List.map z0d a0.f_s.Procs)),.row 1,.row 2,.row 3,.row 4,.pv (.int .i64 a0.f_proc),.pv (.sl (List.map z09 a0.f_vars)),.pv (.int .i64 a0.f_e)],oT false none 69 6 (List.map z04 a0.f_p.Chans),oR false 78 2 (List.map z0b a0.f_p.Procs),oR false 9 1 (List.map z09 a0.f_chans),oR false 9 1 (List.map z09 a0.f_procs)] (z7o r) (z7p a0 r)) (ih_check_maker_recv:∀ (a0:z01) (a1:z05) (r:(z01 × z0h)),z36 n a0 a1=some r→Cs Tryz.prog (GX X) 148 [xP 0 0,.agg (bs (z47 a1))] [oB 117 [.pv (.sl (List.map z0c a0.f_s.Chans)),.pv (.sl (List.map z0e a0.f_s.Rules)),.pv (.sl (List.map z0d a0.f_s.Procs)),.row 1,.row 2,.row 3,.row 4,.pv (.int .i64 a0.f_proc),.pv (.sl (List.map z09 a0.f_vars)),.pv (.int .i64 a0.f_e)],oT false none 69 6 (List.map z04 a0.f_p.Chans),oR false 78 2 (List.map z0b a0.f_p.Procs),oR false 9 1 (List.map z09 a0.f_chans),oR false 9 1 (List.map z09 a0.f_procs)] (z6m r) (z6n a0 r)) (a0:z01) (a1:z05) (r:(z01 × z0h)) (h:z36 (n+1) a0 a1=some r):Cs Tryz.prog (GX X) 148 [xP 0 0,.agg (bs (z47 a1))] [oB 117 [.pv (.sl (List.map z0c a0.f_s.Chans)),.pv (.sl (List.map z0e a0.f_s.Rules)),.pv (.sl (List.map z0d a0.f_s.Procs)),.row 1,.row 2,.row 3,.row 4,.pv (.int .i64 a0.f_proc),.pv (.sl (List.map z09 a0.f_vars)),.pv (.int .i64 a0.f_e)],oT false none 69 6 (List.map z04 a0.f_p.Chans),oR false 78 2 (List.map z0b a0.f_p.Procs),oR false 9 1 (List.map z09 a0.f_chans),oR false 9 1 (List.map z09 a0.f_procs)] (z6m r) (z6n a0 r):=by
 refine fnT (cx:=cx X) Tryz.f148 Tryz.call148 Tryz.func148 (by kernel_rfl) ?_
 rw [z36] at h
 obtain ⟨v1,k1,h⟩:=z07 h
 refine adv (ok X) 11 [.s (z9k v1) (z9l a0 v1),.i (a1.Arms.length:Int)] (pA (zdo (X:=X) k1) (pA (lm z3l a1.Arms) pT)) (by kernel_rfl) ?_
 refine lp (ok X) (z7c (z1j n) (z1u n) (z36 n) a0 a1 v1) (fun (x1:(Int × Int × (List ByteArray) × (List z3z)))=>⟨63,5,[(0,[xP 0 0]),(4,[xP 6 0]),(6,[xL (List.map z09 v1.2.2)]),(7,[xP 7 0]),(8,[xR 8]),(25,[xL (List.map z3l a1.Arms)]),(26,[xI (a1.Arms.length:Int)]),(27,[xI x1.1])],[oB 117 [.pv (.sl (List.map z0c a0.f_s.Chans)),.pv (.sl (List.map z0e a0.f_s.Rules)),.pv (.sl (List.map z0d a0.f_s.Procs)),.row 1,.row 2,.row 3,.row 4,.pv (.int .i64 a0.f_proc),.pv (.sl (List.map z09 a0.f_vars)),.pv (.int .i64 x1.2.1)],oT false none 69 6 (List.map z04 a0.f_p.Chans),oR false 78 2 (List.map z0b a0.f_p.Procs),oR false 9 1 (List.map z09 a0.f_chans),oR false 9 1 (List.map z09 a0.f_procs),none,oB 188 [.pv (.int .i64 0),.pv (.int .i64 0),.pv (.int .i64 0),.pv (.int .i64 0),.pv (.int .i64 0),.pv (.int .i64 0),.pv (.int .i64 0),.emp,.pv (.int .i64 0),.pv (.int .i64 0),.pv (.int .i64 0),.pv (.int .i64 0),.emp,.pv (.int .i64 0),.pv (.int .i64 0),.pv (.int .i64 0),.emp,.emp,.emp,.emp],oB 188 [.pv (.int .i64 a1.Kind),.pv (.int .i64 0),.pv (.int .i64 v1.2.1),.pv (.int .i64 0),.pv (.int .i64 0),.pv (.int .i64 0),.pv (.int .i64 0),.emp,.pv (.int .i64 0),.pv (.int .i64 0),.pv (.int .i64 0),.pv (.int .i64 0),.emp,.pv (.int .i64 0),.pv (.int .i64 0),.pv (.int .i64 0),.emp,.emp,.emp,.row 9],oR true 9 1 (List.map z09 x1.2.2.1),oR true 192 3 (List.map z3g x1.2.2.2)]⟩) (fun (j1:(Int × (List z3z)))=>⟨63,5,[(4,[xP 6 0]),(7,[xP 7 0])],[oB 117 [.pv (.sl (List.map z0c a0.f_s.Chans)),.pv (.sl (List.map z0e a0.f_s.Rules)),.pv (.sl (List.map z0d a0.f_s.Procs)),.row 1,.row 2,.row 3,.row 4,.pv (.int .i64 a0.f_proc),.pv (.sl (List.map z09 a0.f_vars)),.pv (.int .i64 j1.1)],oT false none 69 6 (List.map z04 a0.f_p.Chans),oR false 78 2 (List.map z0b a0.f_p.Procs),oR false 9 1 (List.map z09 a0.f_chans),oR false 9 1 (List.map z09 a0.f_procs),none,oB 188 [.pv (.int .i64 0),.pv (.int .i64 0),.pv (.int .i64 0),.pv (.int .i64 0),.pv (.int .i64 0),.pv (.int .i64 0),.pv (.int .i64 0),.emp,.pv (.int .i64 0),.pv (.int .i64 0),.pv (.int .i64 0),.pv (.int .i64 0),.emp,.pv (.int .i64 0),.pv (.int .i64 0),.pv (.int .i64 0),.emp,.emp,.emp,.emp],oB 188 [.pv (.int .i64 a1.Kind),.pv (.int .i64 0),.pv (.int .i64 v1.2.1),.pv (.int .i64 0),.pv (.int .i64 0),.pv (.int .i64 0),.pv (.int .i64 0),.emp,.pv (.int .i64 0),.pv (.int .i64 0),.pv (.int .i64 0),.pv (.int .i64 0),.emp,.pv (.int .i64 0),.pv (.int .i64 0),.pv (.int .i64 0),.emp,.emp,.emp,.row 9],none,oR true 192 3 (List.map z3g j1.2)]⟩) (zkl a0) (0,v1.1.f_e,[],[]) (fun _=>⟨_,_,_,_,rfl⟩) h (by kernel_rfl) (fun x1 o h=>?_) (fun r' h=>?_) (fun j1 h=>?_)
 ·unfold z7c at h
  rcases iteE h with ⟨k2,h⟩|⟨k2,h⟩
  ·obtain ⟨v2,k3,h⟩:=z07 h
   obtain ⟨v3,k4,h⟩:=z07 h
   obtain ⟨v4,k5,h⟩:=z07 h
   obtain ⟨v5,k6,h⟩:=z07 h
   obtain ⟨v6,k7,h⟩:=z07 h
   obtain ⟨v7,k8,h⟩:=z07 h
   obtain rfl:=retE h
   exact fin (ok X) 18 [.b true,.e (znq v2),.s (z54 v3) (z55 (z01.mk a0.f_s a0.f_p a0.f_chans a0.f_procs a0.f_proc a0.f_vars x1.2.1) v3),.s (zbp v4) (zbq (z01.mk a0.f_s a0.f_p a0.f_chans a0.f_procs a0.f_proc a0.f_vars v3.1.f_e) v4),.o [0,1,2,3,4,5,6,7,8],.s (z54 v5) (z55 (z01.mk a0.f_s a0.f_p a0.f_chans a0.f_procs a0.f_proc a0.f_vars v4.1.f_e) v5),.o [0,1,2,3,4,5,6,7,8,9,10,11,12],.s (z3w v6) (z3x (z01.mk a0.f_s a0.f_p a0.f_chans a0.f_procs a0.f_proc a0.f_vars v5.1.f_e) v6),.bl (List.map z3g [(z3z.mk v3.2 v5.2 v6.2)]),.l (List.map z3g v7)] (pA k2 (pA (ixr zc4 k3) (pA (z5t (X:=X) k4) (pA (zez (X:=X) k5) (pA (z5t (X:=X) k6) (pA (ih_check_maker_stmts _ _ _ k7) (pA (blc (e:=z3g) (x:=(z3z.mk v3.2 v5.2 v6.2)) (zfy _).symm (bl0 z3g)) (pA (apm (L:=x1.2.2.2) (M:=[(z3z.mk v3.2 v5.2 v6.2)]) zno k8) pT)))))))) (by kernel_rfl)
  ·obtain rfl:=retE h
   exact fin (ok X) 5 [.b false] (pA k2 pT) (by kernel_rfl)
 ·cases h
 ·obtain rfl:=retE h
  exact fin (ok X) 3 [] pT (by kernel_rfl)
theorem zdp:∀ n:Nat,(∀ (a0:z01) (a1:(List z05)) (r:(z01 × (List z0h))),z1j n a0 a1=some r→Cs Tryz.prog (GX X) 76 [xP 0 0,xL (List.map z1e a1)] [oB 117 [.pv (.sl (List.map z0c a0.f_s.Chans)),.pv (.sl (List.map z0e a0.f_s.Rules)),.pv (.sl (List.map z0d a0.f_s.Procs)),.row 1,.row 2,.row 3,.row 4,.pv (.int .i64 a0.f_proc),.pv (.sl (List.map z09 a0.f_vars)),.pv (.int .i64 a0.f_e)],oT false none 69 6 (List.map z04 a0.f_p.Chans),oR false 78 2 (List.map z0b a0.f_p.Procs),oR false 9 1 (List.map z09 a0.f_chans),oR false 9 1 (List.map z09 a0.f_procs)] (z3w r) (z3x a0 r))∧(∀ (a0:z01) (a1:z05) (r:(z01 × z0h)),z1u n a0 a1=some r→Cs Tryz.prog (GX X) 119 [xP 0 0,.agg (bs (z47 a1))] [oB 117 [.pv (.sl (List.map z0c a0.f_s.Chans)),.pv (.sl (List.map z0e a0.f_s.Rules)),.pv (.sl (List.map z0d a0.f_s.Procs)),.row 1,.row 2,.row 3,.row 4,.pv (.int .i64 a0.f_proc),.pv (.sl (List.map z09 a0.f_vars)),.pv (.int .i64 a0.f_e)],oT false none 69 6 (List.map z04 a0.f_p.Chans),oR false 78 2 (List.map z0b a0.f_p.Procs),oR false 9 1 (List.map z09 a0.f_chans),oR false 9 1 (List.map z09 a0.f_procs)] (z7o r) (z7p a0 r))∧(∀ (a0:z01) (a1:z05) (r:(z01 × z0h)),z36 n a0 a1=some r→Cs Tryz.prog (GX X) 148 [xP 0 0,.agg (bs (z47 a1))] [oB 117 [.pv (.sl (List.map z0c a0.f_s.Chans)),.pv (.sl (List.map z0e a0.f_s.Rules)),.pv (.sl (List.map z0d a0.f_s.Procs)),.row 1,.row 2,.row 3,.row 4,.pv (.int .i64 a0.f_proc),.pv (.sl (List.map z09 a0.f_vars)),.pv (.int .i64 a0.f_e)],oT false none 69 6 (List.map z04 a0.f_p.Chans),oR false 78 2 (List.map z0b a0.f_p.Procs),oR false 9 1 (List.map z09 a0.f_chans),oR false 9 1 (List.map z09 a0.f_procs)] (z6m r) (z6n a0 r))
 | 0=>⟨(fun _ _ _ h=>by rw [z1j] at h;cases h),(fun _ _ _ h=>by rw [z1u] at h;cases h),(fun _ _ _ h=>by rw [z36] at h;cases h)⟩
 | n+1=>by
  have ih:=zdp n
  exact ⟨zju ih.1 ih.2.1 ih.2.2,zl4 ih.1 ih.2.1 ih.2.2,zl5 ih.1 ih.2.1 ih.2.2⟩
theorem zjv {a0:z01} {a1:(List z05)} {r:(z01 × (List z0h))} (h:zax a0 a1=some r):Cs Tryz.prog (GX X) 76 [xP 0 0,xL (List.map z1e a1)] [oB 117 [.pv (.sl (List.map z0c a0.f_s.Chans)),.pv (.sl (List.map z0e a0.f_s.Rules)),.pv (.sl (List.map z0d a0.f_s.Procs)),.row 1,.row 2,.row 3,.row 4,.pv (.int .i64 a0.f_proc),.pv (.sl (List.map z09 a0.f_vars)),.pv (.int .i64 a0.f_e)],oT false none 69 6 (List.map z04 a0.f_p.Chans),oR false 78 2 (List.map z0b a0.f_p.Procs),oR false 9 1 (List.map z09 a0.f_chans),oR false 9 1 (List.map z09 a0.f_procs)] (z3w r) (z3x a0 r):=by
 obtain ⟨n,hn⟩:=unfE h
 exact (zdp n).1 _ _ _ hn
theorem zl6 {a0:z01} {a1:Int} {a2:z3k} {r:z01} (h:z8m a0 a1 a2=some r):Cs Tryz.prog (GX X) 36 [xP 0 0,xI a1,.agg (bs (z0d a2))] [oB 117 [.pv (.sl (List.map z0c a0.f_s.Chans)),.pv (.sl (List.map z0e a0.f_s.Rules)),.pv (.sl (List.map z0d a0.f_s.Procs)),.row 1,.row 2,.row 3,.row 4,.pv (.int .i64 a0.f_proc),.pv (.sl (List.map z09 a0.f_vars)),.pv (.int .i64 a0.f_e)],oT false none 69 6 (List.map z04 a0.f_p.Chans),oR false 78 2 (List.map z0b a0.f_p.Procs),oR false 9 1 (List.map z09 a0.f_chans),oR false 9 1 (List.map z09 a0.f_procs)] (zfm r) (zfn a0 r):=by
 refine fnT (cx:=cx X) Tryz.f36 Tryz.call36 Tryz.func36 (by kernel_rfl) ?_
 unfold z8m at h
 obtain ⟨v1,k1,h⟩:=z07 h
 obtain ⟨v2,k2,h⟩:=z07 h
 obtain ⟨v3,k3,h⟩:=z07 h
 obtain ⟨v4,k4,h⟩:=z07 h
 obtain rfl:=retE h
 exact fin (ok X) 9 [.i (a2.Vars.length:Int),.s (z1y v1) (z1z a0 v1),.s (z9n v2) (z9o (z01.mk a0.f_s a0.f_p a0.f_chans a0.f_procs a0.f_proc a0.f_vars v1.f_e) v2),.o [0,1,2,3,4,5,6,7,8,9,10],.o [0,1,2,3,4,5,6,7,8,9,10,11,12,13,14,15,16,17,18,19],.i (a2.Vars.length:Int),.s (z3w v3) (z3x (z01.mk a0.f_s a0.f_p a0.f_chans a0.f_procs a1 a2.Vars v2.f_e) v3),.l (List.map z0b v4)] (pA (lm z09 a2.Vars) (pA (z27 (X:=X) k1) (pA (zf0 (X:=X) k2) (pA (lm z09 a2.Vars) (pA (zjv (X:=X) k3) (pA (apm (L:=a0.f_p.Procs) (M:=[(z6r.mk (a2.Vars.length:Int) v3.2)]) zmt k4) pT)))))) (by kernel_rfl)
theorem zl7 {a0:z17} {r:(z18 × Int)} (h:z91 a0=some r):Cv Tryz.prog (GX X) 13 [.agg (bs (z5l a0))] (zcp r):=by
 refine Cs.toV (?_:Cs Tryz.prog (GX X) 13 [.agg (bs (z5l a0))] [] (zcp r) (zkm r)) (by kernel_rfl)
 refine fnT (cx:=cx X) Tryz.f13 Tryz.call13 Tryz.func13 (by kernel_rfl) ?_
 unfold z91 at h
 obtain ⟨v1,k1,h⟩:=z07 h
 refine adv (ok X) 5 [.c (zep v1)] (pA (zo0 (X:=X) k1) pT) (by kernel_rfl) ?_
 rcases iteE h with ⟨k2,h⟩|⟨k2,h⟩
 ·obtain rfl:=retE h
  exact fin (ok X) 4 [.b true] (pA k2 pT) (by kernel_rfl)
 ·refine adv (ok X) 5 [.b false] (pA k2 pT) (by kernel_rfl) ?_
  refine zg (.g (.lc 2 3 69 6)) pT (by kernel_rfl) ?_
  refine zg (.tr 3) pT (by kernel_rfl) ?_
  obtain ⟨v2,k3,h⟩:=z07 h
  obtain ⟨v3,k4,h⟩:=z07 h
  refine adv (ok X) 6 [.z (.lc 2 4 78 2),.z (.lc 2 5 9 1),.z (.lc 2 6 9 1),.z (.nb 2),.s (zai v2) (zaj (z01.mk a0 (z18.mk [] []) [] [] 0 [] 0) v2),.s (zck v3) (zcl (z01.mk a0 (z18.mk v2.f_p.Chans []) v2.f_chans [] 0 [] v2.f_e) v3),.i (a0.Rules.length:Int)] (pA (zi4 (X:=X) k3) (pA (zkz (X:=X) k4) (pA (lm z0e a0.Rules) pT))) (by kernel_rfl) ?_
  refine lp (ok X) (z8z a0 v2 v3) (fun (x1:(Int × Int × (List z0a)))=>⟨68,0,[(1,[xP 0 0]),(2,[xP 1 0]),(4,[xP 2 0]),(21,[xL (List.map z0e a0.Rules)]),(22,[xI (a0.Rules.length:Int)]),(23,[xI x1.1])],[oB 67 (bs (z5l a0)),oB 57 [.emp,.emp],oB 117 [.pv (.sl (List.map z0c a0.Chans)),.pv (.sl (List.map z0e a0.Rules)),.pv (.sl (List.map z0d a0.Procs)),.row 3,.row 4,.row 5,.row 6,.pv (.int .i64 0),.pv (.sl (List.map z09 [])),.pv (.int .i64 x1.2.1)],oT true none 69 6 (List.map z04 x1.2.2),oR false 78 2 (List.map z0b []),oR true 9 1 (List.map z09 v2.f_chans),oR true 9 1 (List.map z09 v3.f_procs)]⟩) (fun (j1:(Int × (List z0a)))=>⟨68,0,[(1,[xP 0 0]),(2,[xP 1 0]),(4,[xP 2 0])],[oB 67 (bs (z5l a0)),oB 57 [.emp,.emp],oB 117 [.pv (.sl (List.map z0c a0.Chans)),.pv (.sl (List.map z0e a0.Rules)),.pv (.sl (List.map z0d a0.Procs)),.row 3,.row 4,.row 5,.row 6,.pv (.int .i64 0),.pv (.sl (List.map z09 [])),.pv (.int .i64 j1.1)],oT true none 69 6 (List.map z04 j1.2),oR false 78 2 (List.map z0b []),oR true 9 1 (List.map z09 v2.f_chans),oR true 9 1 (List.map z09 v3.f_procs)]⟩) zkn (0,v3.f_e,v3.f_p.Chans) (fun _=>⟨_,_,_,_,rfl⟩) h (by kernel_rfl) (fun x1 o h=>?_) (fun r' h=>?_) (fun j1 h=>?_)
  ·unfold z8z at h
   rcases iteE h with ⟨k5,h⟩|⟨k5,h⟩
   ·refine adv (ok X) 6 [.b true] (pA k5 pT) (by kernel_rfl) ?_
    refine jn (ok X) 1 (fun (j2:(Int × (List z0a)))=>⟨68,0,[(1,[xP 0 0]),(2,[xP 1 0]),(4,[xP 2 0]),(21,[xL (List.map z0e a0.Rules)]),(22,[xI (a0.Rules.length:Int)]),(23,[xI x1.1])],[oB 67 (bs (z5l a0)),oB 57 [.emp,.emp],oB 117 [.pv (.sl (List.map z0c a0.Chans)),.pv (.sl (List.map z0e a0.Rules)),.pv (.sl (List.map z0d a0.Procs)),.row 3,.row 4,.row 5,.row 6,.pv (.int .i64 0),.pv (.sl (List.map z09 [])),.pv (.int .i64 j2.1)],oT true none 69 6 (List.map z04 j2.2),oR false 78 2 (List.map z0b []),oR true 9 1 (List.map z09 v2.f_chans),oR true 9 1 (List.map z09 v3.f_procs)]⟩) h (fun j2 h=>?_) (fun j2 h=>?_)
    ·obtain ⟨v4,k6,h⟩:=z07 h
     refine adv (ok X) 5 [.e (z0e v4)] (pA (ixm z0e k6) pT) (by kernel_rfl) ?_
     rcases iteE h with ⟨k7,h⟩|⟨k7,h⟩
     ·obtain ⟨v5,k8,h⟩:=z07 h
      obtain rfl:=retE h
      exact fin (ok X) 3 [.b true,.s (zcm v5) (zcn (z01.mk a0 (z18.mk x1.2.2 []) v2.f_chans v3.f_procs 0 [] x1.2.1) v5)] (pA k7 (pA (zl1 (X:=X) k8) pT)) (by kernel_rfl)
     ·obtain rfl:=retE h
      exact fin (ok X) 3 [.b false] (pA k7 pT) (by kernel_rfl)
    ·obtain rfl:=retE h
     exact fin (ok X) 1 [] pT (by kernel_rfl)
   ·obtain rfl:=retE h
    exact fin (ok X) 5 [.b false] (pA k5 pT) (by kernel_rfl)
  ·cases h
  ·refine adv (ok X) 3 [.i (a0.Procs.length:Int)] (pA (lm z0d a0.Procs) pT) (by kernel_rfl) ?_
   refine lp (ok X) (z90 a0 j1 v2 v3) (fun (x3:(Int × Int × (List ByteArray) × Int × (List z6r)))=>⟨68,0,[(2,[xP 1 0]),(4,[xP 2 0]),(37,[xL (List.map z0d a0.Procs)]),(38,[xI (a0.Procs.length:Int)]),(39,[xI x3.1])],[none,oB 57 [.emp,.emp],oB 117 [.pv (.sl (List.map z0c a0.Chans)),.pv (.sl (List.map z0e a0.Rules)),.pv (.sl (List.map z0d a0.Procs)),.row 3,.row 4,.row 5,.row 6,.pv (.int .i64 x3.2.1),.pv (.sl (List.map z09 x3.2.2.1)),.pv (.int .i64 x3.2.2.2.1)],oT true none 69 6 (List.map z04 j1.2),oR true 78 2 (List.map z0b x3.2.2.2.2),oR true 9 1 (List.map z09 v2.f_chans),oR true 9 1 (List.map z09 v3.f_procs)]⟩) (fun (j3:(Int × (List ByteArray) × Int × (List z6r)))=>⟨68,0,[(2,[xP 1 0]),(4,[xP 2 0])],[none,oB 57 [.emp,.emp],oB 117 [.pv (.sl (List.map z0c a0.Chans)),.pv (.sl (List.map z0e a0.Rules)),.pv (.sl (List.map z0d a0.Procs)),.row 3,.row 4,.row 5,.row 6,.pv (.int .i64 j3.1),.pv (.sl (List.map z09 j3.2.1)),.pv (.int .i64 j3.2.2.1)],oT true none 69 6 (List.map z04 j1.2),oR true 78 2 (List.map z0b j3.2.2.2),oR true 9 1 (List.map z09 v2.f_chans),oR true 9 1 (List.map z09 v3.f_procs)]⟩) zkn (0,0,[],j1.1,[]) (fun _=>⟨_,_,_,_,rfl⟩) h (by kernel_rfl) (fun x3 o h=>?_) (fun r' h=>?_) (fun j3 h=>?_)
   ·unfold z90 at h
    rcases iteE h with ⟨k9,h⟩|⟨k9,h⟩
    ·refine adv (ok X) 6 [.b true] (pA k9 pT) (by kernel_rfl) ?_
     refine jn (ok X) 1 (fun (j4:(Int × (List ByteArray) × Int × (List z6r)))=>⟨68,0,[(2,[xP 1 0]),(4,[xP 2 0]),(37,[xL (List.map z0d a0.Procs)]),(38,[xI (a0.Procs.length:Int)]),(39,[xI x3.1])],[none,oB 57 [.emp,.emp],oB 117 [.pv (.sl (List.map z0c a0.Chans)),.pv (.sl (List.map z0e a0.Rules)),.pv (.sl (List.map z0d a0.Procs)),.row 3,.row 4,.row 5,.row 6,.pv (.int .i64 j4.1),.pv (.sl (List.map z09 j4.2.1)),.pv (.int .i64 j4.2.2.1)],oT true none 69 6 (List.map z04 j1.2),oR true 78 2 (List.map z0b j4.2.2.2),oR true 9 1 (List.map z09 v2.f_chans),oR true 9 1 (List.map z09 v3.f_procs)]⟩) h (fun j4 h=>?_) (fun j4 h=>?_)
     ·obtain ⟨v6,k10,h⟩:=z07 h
      refine adv (ok X) 5 [.e (z0d v6)] (pA (ixm z0d k10) pT) (by kernel_rfl) ?_
      rcases iteE h with ⟨k11,h⟩|⟨k11,h⟩
      ·obtain ⟨v7,k12,h⟩:=z07 h
       obtain rfl:=retE h
       exact fin (ok X) 3 [.b true,.s (zfm v7) (zfn (z01.mk a0 (z18.mk j1.2 x3.2.2.2.2) v2.f_chans v3.f_procs x3.2.1 x3.2.2.1 x3.2.2.2.1) v7)] (pA k11 (pA (zl6 (X:=X) k12) pT)) (by kernel_rfl)
      ·obtain rfl:=retE h
       exact fin (ok X) 3 [.b false] (pA k11 pT) (by kernel_rfl)
     ·obtain rfl:=retE h
      exact fin (ok X) 1 [] pT (by kernel_rfl)
    ·obtain rfl:=retE h
     exact fin (ok X) 5 [.b false] (pA k9 pT) (by kernel_rfl)
   ·cases h
   ·rcases iteE h with ⟨k13,h⟩|⟨k13,h⟩
    ·obtain rfl:=retE h
     exact fin (ok X) 7 [.b true,.o [0,1,2,3,4,5,6]] (pA k13 pT) (by kernel_rfl)
    ·refine adv (ok X) 7 [.b false] (pA k13 pT) (by kernel_rfl) ?_
     refine zg (.un 3 (List.map z0m j1.2)) (pA (unm zlq j1.2) pT) (by kernel_rfl) ?_
     obtain rfl:=retE h
     exact fin (ok X) 1 [] pT (by kernel_rfl)
theorem z6a {a0:z00} {a1:ByteArray} {r:Bool} (h:z3j a0 a1=some r):Cs Tryz.prog (GX X) 84 [xP 0 0,xS a1] [oB 138 (bs (z03 a0))] (z5o r) (z5p a0 r):=by
 refine fnT (cx:=cx X) Tryz.f84 Tryz.call84 Tryz.func84 (by kernel_rfl) ?_
 unfold z3j at h
 rcases iteE h with ⟨k1,h⟩|⟨k1,h⟩
 ·rcases iteE h with ⟨k2,h⟩|⟨k2,h⟩
  ·obtain ⟨v1,k3,h⟩:=z07 h
   rcases iteE h with ⟨k4,h⟩|⟨k4,h⟩
   ·obtain ⟨v2,k5,h⟩:=z07 h
    obtain rfl:=retE h
    exact fin (ok X) 5 (bT 5 (.i (a0.f_l.length:Int)::bT 7 (.e (z1p v1)::bT 9 (.e (z1p v2)::bT 5 [])))) (pR 5 k1 (pA (lm z1p a0.f_l) (pA k1 (pA k1 (pR 5 k2 (pA (ixm z1p k3) (pR 4 k2 (pR 5 k4 (pA (ixm z1p k5) (pR 5 k4 pT)))))))))) (by kernel_rfl)
   ·obtain rfl:=retE h
    exact fin (ok X) 5 (bT 5 (.i (a0.f_l.length:Int)::bT 7 (.e (z1p v1)::bT 4 (bF 10 [])))) (pR 5 k1 (pA (lm z1p a0.f_l) (pA k1 (pA k1 (pR 5 k2 (pA (ixm z1p k3) (pR 4 k2 (pR 10 k4 pT)))))))) (by kernel_rfl)
  ·obtain rfl:=retE h
   exact fin (ok X) 5 (bT 5 (.i (a0.f_l.length:Int)::.b true::.b true::bF 19 [])) (pR 5 k1 (pA (lm z1p a0.f_l) (pA k1 (pA k1 (pR 9 k2 (pR 10 ff pT)))))) (by kernel_rfl)
 ·obtain rfl:=retE h
  exact fin (ok X) 5 (bF 26 []) (pR 7 k1 (pR 19 ff pT)) (by kernel_rfl)
theorem z32 {a0:z00} {a1:ByteArray} {r:(z00 × Bool)} (h:z0r a0 a1=some r):Cs Tryz.prog (GX X) 42 [xP 0 0,xS a1] [oB 138 (bs (z03 a0))] (z2s r) (z2t r):=by
 refine fnT (cx:=cx X) Tryz.f42 Tryz.call42 Tryz.func42 (by kernel_rfl) ?_
 unfold z0r at h
 obtain ⟨v1,k1,h⟩:=z07 h
 refine adv (ok X) 5 [.s (z5o v1) (z5p a0 v1)] (pA (z6a (X:=X) k1) pT) (by kernel_rfl) ?_
 rcases iteE h with ⟨k2,h⟩|⟨k2,h⟩
 ·obtain rfl:=retE h
  exact fin (ok X) 4 [.b true] (pA k2 pT) (by kernel_rfl)
 ·obtain ⟨v2,k3,h⟩:=z07 h
  obtain rfl:=retE h
  exact fin (ok X) 7 [.b false,.l (List.map z1p v2)] (pA k2 (pA (lsm0 z1p k3) (pA (lnm zex a0.f_l) pT))) (by kernel_rfl)
theorem zd9 {a0:z00} {a1:Int} {r:Bool} (h:z6o a0 a1=some r):Cs Tryz.prog (GX X) 153 [xP 0 0,xI a1] [oB 138 (bs (z03 a0))] (zay r) (zaz a0 r):=by
 refine fnT (cx:=cx X) Tryz.f153 Tryz.call153 Tryz.func153 (by kernel_rfl) ?_
 unfold z6o at h
 rcases iteE h with ⟨k1,h⟩|⟨k1,h⟩
 ·rcases iteE h with ⟨k2,h⟩|⟨k2,h⟩
  ·obtain ⟨v1,k3,h⟩:=z07 h
   obtain rfl:=retE h
   exact fin (ok X) 5 (bT 5 (.i (a0.f_l.length:Int)::bT 7 (.e (z1p v1)::bT 5 []))) (pR 5 k1 (pA (lm z1p a0.f_l) (pA k1 (pA k1 (pR 5 k2 (pA (ixm z1p k3) (pR 5 k2 pT))))))) (by kernel_rfl)
  ·obtain rfl:=retE h
   exact fin (ok X) 5 (bT 5 (.i (a0.f_l.length:Int)::.b true::.b true::bF 10 [])) (pR 5 k1 (pA (lm z1p a0.f_l) (pA k1 (pA k1 (pR 10 k2 pT))))) (by kernel_rfl)
 ·obtain rfl:=retE h
  exact fin (ok X) 5 (bF 17 []) (pR 7 k1 (pR 10 ff pT)) (by kernel_rfl)
theorem z6b {a0:z00} {a1:Int} {r:z00} (h:z2q a0 a1=some r):Cs Tryz.prog (GX X) 46 [xP 0 0,xI a1] [oB 138 (bs (z03 a0))] (z5q r) (z5r r):=by
 refine fnT (cx:=cx X) Tryz.f46 Tryz.call46 Tryz.func46 (by kernel_rfl) ?_
 unfold z2q at h
 rcases iteE h with ⟨k1,h⟩|⟨k1,h⟩
 ·obtain rfl:=retE h
  exact fin (ok X) 5 [.b true] (pA k1 pT) (by kernel_rfl)
 ·refine adv (ok X) 9 [.b false,.i (a0.f_l.length:Int)] (pA k1 (pA (lm z1p a0.f_l) pT)) (by kernel_rfl) ?_
  rcases iteE h with ⟨k2,h⟩|⟨k2,h⟩
  ·obtain ⟨v1,k3,h⟩:=z07 h
   obtain rfl:=retE h
   exact fin (ok X) 2 [.b true,.e (z1p v1)] (pA k2 (pA (ixm z1p k3) pT)) (by kernel_rfl)
  ·obtain rfl:=retE h
   exact fin (ok X) 2 [.b false] (pA k2 pT) (by kernel_rfl)
theorem zf2 {a0:z00} {a1:Int} {r:(z00 × z0n)} (h:z6g a0 a1=some r):Cs Tryz.prog (GX X) 130 [xP 0 0,xI a1] [oB 138 (bs (z03 a0))] (zbt r) (zbu r):=by
 refine fnT (cx:=cx X) Tryz.f130 Tryz.call130 Tryz.func130 (by kernel_rfl) ?_
 unfold z6g at h
 obtain ⟨v1,k1,h⟩:=z07 h
 refine adv (ok X) 5 [.s (zay v1) (zaz a0 v1)] (pA (zd9 (X:=X) k1) pT) (by kernel_rfl) ?_
 rcases iteE h with ⟨k2,h⟩|⟨k2,h⟩
 ·obtain ⟨v2,k3,h⟩:=z07 h
  obtain rfl:=retE h
  exact fin (ok X) 6 [.b true,.s (z5q v2) (z5r v2)] (pA k2 (pA (z6b (X:=X) k3) pT)) (by kernel_rfl)
 ·obtain ⟨v3,k4,h⟩:=z07 h
  obtain ⟨v4,k5,h⟩:=z07 h
  obtain rfl:=retE h
  exact fin (ok X) 9 [.b false,.e (z1p v3),.l (List.map z1p v4)] (pA k2 (pA (ixm z1p k4) (pA (lsm0 z1p k5) (pA (lnm zex a0.f_l) pT)))) (by kernel_rfl)
theorem z2i {a0:z00} {r:(z00 × ByteArray)} (h:z0p a0=some r):Cs Tryz.prog (GX X) 85 [xP 0 0] [oB 138 (bs (z03 a0))] (z2a r) (z2b r):=by
 refine fnT (cx:=cx X) Tryz.f85 Tryz.call85 Tryz.func85 (by kernel_rfl) ?_
 unfold z0p at h
 obtain ⟨v1,k1,h⟩:=z07 h
 obtain rfl:=retE h
 exact fin (ok X) 5 [.s (zbt v1) (zbu v1)] (pA (zf2 (X:=X) k1) pT) (by kernel_rfl)
theorem z8e {a0:(List ByteArray)} {a1010:z00} {r:(z00 × Int)} (h:z2m a0 a1010=some r):Cs Tryz.prog (GX X) 131 [xL (List.map z09 a0),.fn (.func 42) [.box 0 0] []] [oB 138 (bs (z03 a1010))] (z4d r) (z4e r):=by
 refine fnT (cx:=cx X) Tryz.f131 Tryz.call131 Tryz.func131 (by kernel_rfl) ?_
 unfold z2m at h
 refine adv (ok X) 5 [.i (a0.length:Int)] (pA (lm z09 a0) pT) (by kernel_rfl) ?_
 refine lp (ok X) (z0u a0) (fun (x1:(Int × (List z0n) × Int × Int × Int × Int × Int))=>⟨19,1,[(0,[xL (List.map z09 a0)]),(1,[.fn (.func 42) [.box 0 0] []]),(7,[xI (a0.length:Int)]),(8,[xI x1.1])],[oB 138 (bs (z03 (z00.mk x1.2.1 x1.2.2.1 x1.2.2.2.1 x1.2.2.2.2.1 x1.2.2.2.2.2.1 x1.2.2.2.2.2.2)))]⟩) (fun (j1:((List z0n) × Int × Int × Int × Int × Int))=>⟨19,1,[],[oB 138 (bs (z03 (z00.mk j1.1 j1.2.1 j1.2.2.1 j1.2.2.2.1 j1.2.2.2.2.1 j1.2.2.2.2.2)))]⟩) z8b (0,a1010.f_l,a1010.f_end,a1010.f_e,a1010.f_at,a1010.f_deep,a1010.f_in) (fun _=>⟨_,_,_,_,rfl⟩) h (by kernel_rfl) (fun x1 o h=>?_) (fun r' h=>?_) (fun j1 h=>?_)
 ·unfold z0u at h
  rcases iteE h with ⟨k1,h⟩|⟨k1,h⟩
  ·obtain ⟨v1,k2,h⟩:=z07 h
   obtain ⟨v2,k3,h⟩:=z07 h
   refine adv (ok X) 11 [.b true,.e [.str v1],.s (z2s v2) (z2t v2)] (pA k1 (pA (ixm z09 k2) (pA (z32 (X:=X) k3) pT))) (by kernel_rfl) ?_
   rcases iteE h with ⟨k4,h⟩|⟨k4,h⟩
   ·obtain rfl:=retE h
    exact fin (ok X) 4 [.b true] (pA k4 pT) (by kernel_rfl)
   ·obtain rfl:=retE h
    exact fin (ok X) 4 [.b false] (pA k4 pT) (by kernel_rfl)
  ·obtain rfl:=retE h
   exact fin (ok X) 5 [.b false] (pA k1 pT) (by kernel_rfl)
 ·obtain rfl:=retE h
  kernel_rfl
 ·obtain rfl:=retE h
  exact fin (ok X) 3 [] pT (by kernel_rfl)
theorem z9b {a0:z00} {a1:(List ByteArray)} {r:(z00 × Int)} (h:z25 a0 a1=some r):Cs Tryz.prog (GX X) 86 [xP 0 0,xL (List.map z09 a1)] [oB 138 (bs (z03 a0))] (z7y r) (z7z r):=by
 refine fnT (cx:=cx X) Tryz.f86 Tryz.call86 Tryz.func86 (by kernel_rfl) ?_
 unfold z25 at h
 obtain ⟨v1,k1,h⟩:=z07 h
 obtain rfl:=retE h
 exact fin (ok X) 5 [.s (z4d v1) (z4e v1)] (pA (z8e (X:=X) k1) pT) (by kernel_rfl)
theorem z8v {a0:z00} {r:(z00 × Int)} (h:z2h a0=some r):Cs Tryz.prog (GX X) 87 [xP 0 0] [oB 138 (bs (z03 a0))] (z7j r) (z7k r):=by
 refine fnT (cx:=cx X) Tryz.f87 Tryz.call87 Tryz.func87 (by kernel_rfl) ?_
 unfold z2h at h
 obtain ⟨v1,k1,h⟩:=z07 h
 obtain rfl:=retE h
 exact fin (ok X) 5 [.s (zbt v1) (zbu v1)] (pA (zf2 (X:=X) k1) pT) (by kernel_rfl)
theorem z0z {a0:z00} {a1:ByteArray} {r:z00} (h:z08 a0 a1=some r):Cs Tryz.prog (GX X) 88 [xP 0 0,xS a1] [oB 138 (bs (z03 a0))] (z0w r) (z0x r):=by
 refine fnT (cx:=cx X) Tryz.f88 Tryz.call88 Tryz.func88 (by kernel_rfl) ?_
 unfold z08 at h
 obtain ⟨v1,k1,h⟩:=z07 h
 refine adv (ok X) 2 [.s (z2s v1) (z2t v1)] (pA (z32 (X:=X) k1) pT) (by kernel_rfl) ?_
 rcases iteE h with ⟨k2,h⟩|⟨k2,h⟩
 ·obtain ⟨v2,k3,h⟩:=z07 h
  obtain rfl:=retE h
  exact fin (ok X) 2 [.b true,.s (z5q v2) (z5r v2)] (pA k2 (pA (z6b (X:=X) k3) pT)) (by kernel_rfl)
 ·obtain rfl:=retE h
  exact fin (ok X) 2 [.b false] (pA k2 pT) (by kernel_rfl)
theorem zhb {a0:z00} {r:(z00 × z29)} (h:z6t a0=some r):Cs Tryz.prog (GX X) 43 [xP 0 0] [oB 138 (bs (z03 a0))] (za3 r) (za4 r):=by
 refine fnT (cx:=cx X) Tryz.f43 Tryz.call43 Tryz.func43 (by kernel_rfl) ?_
 unfold z6t at h
 obtain ⟨v1,k1,h⟩:=z07 h
 obtain ⟨v2,k2,h⟩:=z07 h
 refine adv (ok X) 9 [.s (z2a v1) (z2b v1),.s (z7y v2) (z7z v2)] (pA (z2i (X:=X) k1) (pA (z9b (X:=X) k2) pT)) (by kernel_rfl) ?_
 rcases iteE h with ⟨k3,h⟩|⟨k3,h⟩
 ·obtain ⟨v3,k4,h⟩:=z07 h
  obtain rfl:=retE h
  exact fin (ok X) 6 [.b true,.s (z5q v3) (z5r v3)] (pA k3 (pA (z6b (X:=X) k4) pT)) (by kernel_rfl)
 ·obtain ⟨v4,k5,h⟩:=z07 h
  obtain ⟨v5,k6,h⟩:=z07 h
  obtain ⟨v6,k7,h⟩:=z07 h
  obtain ⟨v7,k8,h⟩:=z07 h
  obtain ⟨v8,k9,h⟩:=z07 h
  obtain ⟨v9,k10,h⟩:=z07 h
  obtain ⟨v10,k11,h⟩:=z07 h
  obtain ⟨v11,k12,h⟩:=z07 h
  refine adv (ok X) 17 [.b false,.s (z7j v4) (z7k v4),.s (z0w v5) (z0x v5),.s (z2a v6) (z2b v6),.s (z0w v7) (z0x v7),.s (z2a v8) (z2b v8),.s (z0w v9) (z0x v9),.o [0,1,2,3,4,5,6,7],.s (z2a v10) (z2b v10),.l (List.map z09 v11)] (pA k3 (pA (z8v (X:=X) k5) (pA (z0z (X:=X) k6) (pA (z2i (X:=X) k7) (pA (z0z (X:=X) k8) (pA (z2i (X:=X) k9) (pA (z0z (X:=X) k10) (pA (z2i (X:=X) k11) (pA (apm (L:=[]) (M:=[v10.2]) zcq k12) pT))))))))) (by kernel_rfl) ?_
  refine lp (ok X) (z2j) (fun (x1:((List z0n) × Int × Int × Int × Int × Int × (List ByteArray)))=>⟨53,1,[(0,[xP 0 0]),(2,[xP 1 0]),(3,[xP 2 0])],[oB 138 (bs (z03 (z00.mk x1.1 x1.2.1 x1.2.2.1 x1.2.2.2.1 x1.2.2.2.2.1 x1.2.2.2.2.2.1))),oB 126 [.pv (.str (ByteArray.mk #[])),.pv (.int .i64 0),.pv (.int .i64 0),.pv (.str (ByteArray.mk #[])),.pv (.str (ByteArray.mk #[])),.emp],oB 126 [.pv (.str v1.2),.pv (.int .i64 v2.2),.pv (.int .i64 v4.2),.pv (.str v6.2),.pv (.str v8.2),.row 3],oR true 9 1 (List.map z09 x1.2.2.2.2.2.2)]⟩) (fun (j1:((List z0n) × Int × Int × Int × Int × Int × (List ByteArray)))=>⟨53,1,[(0,[xP 0 0]),(2,[xP 1 0]),(3,[xP 2 0])],[oB 138 (bs (z03 (z00.mk j1.1 j1.2.1 j1.2.2.1 j1.2.2.2.1 j1.2.2.2.2.1 j1.2.2.2.2.2.1))),oB 126 [.pv (.str (ByteArray.mk #[])),.pv (.int .i64 0),.pv (.int .i64 0),.pv (.str (ByteArray.mk #[])),.pv (.str (ByteArray.mk #[])),.emp],oB 126 [.pv (.str v1.2),.pv (.int .i64 v2.2),.pv (.int .i64 v4.2),.pv (.str v6.2),.pv (.str v8.2),.row 3],oR true 9 1 (List.map z09 j1.2.2.2.2.2.2)]⟩) zha (v10.1.f_l,v10.1.f_end,v10.1.f_e,v10.1.f_at,v10.1.f_deep,v10.1.f_in,v11) (fun _=>⟨_,_,_,_,rfl⟩) h (by kernel_rfl) (fun x1 o h=>?_) (fun r' h=>?_) (fun j1 h=>?_)
  ·unfold z2j at h
   obtain ⟨v12,k13,h⟩:=z07 h
   refine adv (ok X) 3 [.s (z2s v12) (z2t v12)] (pA (z32 (X:=X) k13) pT) (by kernel_rfl) ?_
   rcases iteE h with ⟨k14,h⟩|⟨k14,h⟩
   ·obtain ⟨v13,k15,h⟩:=z07 h
    obtain ⟨v14,k16,h⟩:=z07 h
    obtain rfl:=retE h
    exact fin (ok X) 5 [.b true,.o [0,1,2,3,4,5,6,7],.s (z2a v13) (z2b v13),.l (List.map z09 v14)] (pA k14 (pA (z2i (X:=X) k15) (pA (apm (L:=x1.2.2.2.2.2.2) (M:=[v13.2]) zcq k16) pT))) (by kernel_rfl)
   ·obtain rfl:=retE h
    exact fin (ok X) 2 [.b false] (pA k14 pT) (by kernel_rfl)
  ·cases h
  ·obtain ⟨v15,k17,h⟩:=z07 h
   obtain ⟨v16,k18,h⟩:=z07 h
   obtain rfl:=retE h
   exact fin (ok X) 7 [.s (z0w v15) (z0x v15),.s (z0w v16) (z0x v16)] (pA (z0z (X:=X) k17) (pA (z0z (X:=X) k18) pT)) (by kernel_rfl)
end Go.Proofs.YtimbigpplbbjaaaGreatDoor.Abs

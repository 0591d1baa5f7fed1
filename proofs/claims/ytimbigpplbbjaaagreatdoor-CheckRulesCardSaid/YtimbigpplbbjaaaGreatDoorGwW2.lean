/- Gw: the functions are these. -/
import Derived.Test.YtimbigpplbbjaaaGreatDoorGwW1
namespace Go.Proofs.YtimbigpplbbjaaaGreatDoor.Abs
open Go Go.RowKit
set_option linter.unusedVariables false
set_option maxRecDepth 100000
set_option maxHeartbeats 4000000
variable {X:EV}
theorem zjw {a0:z00} {r:(z00 × z3e)} (h:z83 a0=some r):Cs Tryz.prog (GX X) 44 [xP 0 0] [oB 138 (bs (z03 a0))] (zbv r) (zbw r):=by
 refine fnT (cx:=cx X) Tryz.f44 Tryz.call44 Tryz.func44 (by kernel_rfl) ?_
 unfold z83 at h
 obtain ⟨v1,k1,h⟩:=z07 h
 obtain ⟨v2,k2,h⟩:=z07 h
 refine adv (ok X) 7 [.s (z2a v1) (z2b v1),.s (z0w v2) (z0x v2)] (pA (z2i (X:=X) k1) (pA (z0z (X:=X) k2) pT)) (by kernel_rfl) ?_
 refine lp (ok X) (z40) (fun (x1:((List z0n) × Int × Int × Int × Int × Int × (List z5d)))=>⟨38,1,[(0,[xP 0 0]),(2,[xP 1 0]),(3,[xP 2 0])],[oB 138 (bs (z03 (z00.mk x1.1 x1.2.1 x1.2.2.1 x1.2.2.2.1 x1.2.2.2.2.1 x1.2.2.2.2.2.1))),oB 120 [.pv (.str (ByteArray.mk #[])),.emp],oB 120 [.pv (.str v1.2),.row 3],oR true 127 3 (List.map z5x x1.2.2.2.2.2.2)]⟩) (fun (j1:((List z0n) × Int × Int × Int × Int × Int × (List z5d)))=>⟨38,1,[(0,[xP 0 0]),(2,[xP 1 0]),(3,[xP 2 0])],[oB 138 (bs (z03 (z00.mk j1.1 j1.2.1 j1.2.2.1 j1.2.2.2.1 j1.2.2.2.2.1 j1.2.2.2.2.2.1))),oB 120 [.pv (.str (ByteArray.mk #[])),.emp],oB 120 [.pv (.str v1.2),.row 3],oR true 127 3 (List.map z5x j1.2.2.2.2.2.2)]⟩) zjn (v2.f_l,v2.f_end,v2.f_e,v2.f_at,v2.f_deep,v2.f_in,[]) (fun _=>⟨_,_,_,_,rfl⟩) h (by kernel_rfl) (fun x1 o h=>?_) (fun r' h=>?_) (fun j1 h=>?_)
 ·unfold z40 at h
  refine adv (ok X) 2 [] pT (by kernel_rfl) ?_
  refine jn (ok X) 1 (fun (j2:Bool)=>⟨38,1,[(0,[xP 0 0]),(2,[xP 1 0]),(3,[xP 2 0]),(19,[xB j2])],[oB 138 (bs (z03 (z00.mk x1.1 x1.2.1 x1.2.2.1 x1.2.2.2.1 x1.2.2.2.2.1 x1.2.2.2.2.2.1))),oB 120 [.pv (.str (ByteArray.mk #[])),.emp],oB 120 [.pv (.str v1.2),.row 3],oR true 127 3 (List.map z5x x1.2.2.2.2.2.2)]⟩) h (fun j2 h=>?_) (fun j2 h=>?_)
  ·rcases iteE h with ⟨k3,h⟩|⟨k3,h⟩
   ·obtain ⟨v3,k4,h⟩:=z07 h
    obtain rfl:=retE h
    exact fin (ok X) 1 [.b true,.b true,.s (z5o v3) (z5p (z00.mk x1.1 x1.2.1 x1.2.2.1 x1.2.2.2.1 x1.2.2.2.2.1 x1.2.2.2.2.2.1) v3),.b true,.b true] (pA k3 (pA k3 (pA (z6a (X:=X) k4) (pA k3 (pA k3 pT))))) (by kernel_rfl)
   ·obtain rfl:=retE h
    exact fin (ok X) 1 (bF 4 []) (pR 4 k3 pT) (by kernel_rfl)
  ·rcases iteE h with ⟨k5,h⟩|⟨k5,h⟩
   ·obtain ⟨v4,k6,h⟩:=z07 h
    obtain ⟨v5,k7,h⟩:=z07 h
    obtain ⟨v6,k8,h⟩:=z07 h
    obtain ⟨v7,k9,h⟩:=z07 h
    obtain ⟨v8,k10,h⟩:=z07 h
    obtain rfl:=retE h
    exact fin (ok X) 9 [.b true,.s (z7j v4) (z7k v4),.s (z2a v5) (z2b v5),.s (z7j v6) (z7k v6),.s (z0w v7) (z0x v7),.l (List.map z5x v8)] (pA k5 (pA (z8v (X:=X) k6) (pA (z2i (X:=X) k7) (pA (z8v (X:=X) k8) (pA (z0z (X:=X) k9) (pA (apm (L:=x1.2.2.2.2.2.2) (M:=[(z5d.mk v4.2 v5.2 v6.2)]) zj3 k10) pT)))))) (by kernel_rfl)
   ·obtain rfl:=retE h
    exact fin (ok X) 2 [.b false] (pA k5 pT) (by kernel_rfl)
 ·cases h
 ·obtain ⟨v9,k11,h⟩:=z07 h
  obtain rfl:=retE h
  exact fin (ok X) 5 [.s (z0w v9) (z0x v9)] (pA (z0z (X:=X) k11) pT) (by kernel_rfl)
theorem ze5 {a0:z00} {r:(z00 × Bool)} (h:z7q a0=some r):Cs Tryz.prog (GX X) 228 [xP 0 0] [oB 138 (bs (z03 a0))] (zb8 r) (zb9 r):=by
 refine fnT (cx:=cx X) Tryz.f228 Tryz.call228 Tryz.func228 (by kernel_rfl) ?_
 unfold z7q at h
 rcases iteE h with ⟨k1,h⟩|⟨k1,h⟩
 ·obtain ⟨v1,k2,h⟩:=z07 h
  obtain rfl:=retE h
  exact fin (ok X) 11 [.b true,.s (z5q v1) (z5r v1)] (pA k1 (pA (z6b (X:=X) k2) pT)) (by kernel_rfl)
 ·obtain rfl:=retE h
  exact fin (ok X) 12 [.b false] (pA k1 pT) (by kernel_rfl)
theorem zjx {n:Nat} (ih_parse_reader_expr:∀ (a0:z00) (r:(z00 × z06)),z1k n a0=some r→Cs Tryz.prog (GX X) 179 [xP 0 0] [oB 138 (bs (z03 a0))] (z2u r) (z2v r)) (ih_parse_reader_chain_parse_reader_term:∀ (a0:z00) (a2:(List ByteArray)) (a3:Int) (r:(z00 × z06)),z0i n a0 a2 a3=some r→Cs Tryz.prog (GX X) 196 [xP 0 0,.fn (.func 197) [.box 0 0] [],xL (List.map z09 a2),xI a3] [oB 138 (bs (z03 a0))] (z19 r) (z1a r)) (ih_parse_reader_term:∀ (a0:z00) (r:(z00 × z06)),z1f n a0=some r→Cs Tryz.prog (GX X) 197 [xP 0 0] [oB 138 (bs (z03 a0))] (z4f r) (z4g r)) (ih_parse_reader_chain_parse_reader_factor:∀ (a0:z00) (a2:(List ByteArray)) (a3:Int) (r:(z00 × z06)),z0g n a0 a2 a3=some r→Cs Tryz.prog (GX X) 196 [xP 0 0,.fn (.func 212) [.box 0 0] [],xL (List.map z09 a2),xI a3] [oB 138 (bs (z03 a0))] (z12 r) (z13 r)) (ih_parse_reader_factor:∀ (a0:z00) (r:(z00 × z06)),z0s n a0=some r→Cs Tryz.prog (GX X) 212 [xP 0 0] [oB 138 (bs (z03 a0))] (z3c r) (z3d r)) (ih_parse_reader_negated:∀ (a0:z00) (r:(z00 × z06)),z1g n a0=some r→Cs Tryz.prog (GX X) 221 [xP 0 0] [oB 138 (bs (z03 a0))] (z3t r) (z3u r)) (ih_parse_reader_parens:∀ (a0:z00) (r:(z00 × z06)),z1l n a0=some r→Cs Tryz.prog (GX X) 222 [xP 0 0] [oB 138 (bs (z03 a0))] (z43 r) (z44 r)) (a0:z00) (r:(z00 × z06)) (h:z1k (n+1) a0=some r):Cs Tryz.prog (GX X) 179 [xP 0 0] [oB 138 (bs (z03 a0))] (z2u r) (z2v r):=by
 refine fnT (cx:=cx X) Tryz.f179 Tryz.call179 Tryz.func179 (by kernel_rfl) ?_
 rw [z1k] at h
 obtain ⟨v1,k1,h⟩:=z07 h
 obtain rfl:=retE h
 exact fin (ok X) 5 [.s (z19 v1) (z1a v1)] (pA (ih_parse_reader_chain_parse_reader_term _ _ _ _ k1) pT) (by kernel_rfl)
theorem zb3 {n:Nat} (ih_parse_reader_expr:∀ (a0:z00) (r:(z00 × z06)),z1k n a0=some r→Cs Tryz.prog (GX X) 179 [xP 0 0] [oB 138 (bs (z03 a0))] (z2u r) (z2v r)) (ih_parse_reader_chain_parse_reader_term:∀ (a0:z00) (a2:(List ByteArray)) (a3:Int) (r:(z00 × z06)),z0i n a0 a2 a3=some r→Cs Tryz.prog (GX X) 196 [xP 0 0,.fn (.func 197) [.box 0 0] [],xL (List.map z09 a2),xI a3] [oB 138 (bs (z03 a0))] (z19 r) (z1a r)) (ih_parse_reader_term:∀ (a0:z00) (r:(z00 × z06)),z1f n a0=some r→Cs Tryz.prog (GX X) 197 [xP 0 0] [oB 138 (bs (z03 a0))] (z4f r) (z4g r)) (ih_parse_reader_chain_parse_reader_factor:∀ (a0:z00) (a2:(List ByteArray)) (a3:Int) (r:(z00 × z06)),z0g n a0 a2 a3=some r→Cs Tryz.prog (GX X) 196 [xP 0 0,.fn (.func 212) [.box 0 0] [],xL (List.map z09 a2),xI a3] [oB 138 (bs (z03 a0))] (z12 r) (z13 r)) (ih_parse_reader_factor:∀ (a0:z00) (r:(z00 × z06)),z0s n a0=some r→Cs Tryz.prog (GX X) 212 [xP 0 0] [oB 138 (bs (z03 a0))] (z3c r) (z3d r)) (ih_parse_reader_negated:∀ (a0:z00) (r:(z00 × z06)),z1g n a0=some r→Cs Tryz.prog (GX X) 221 [xP 0 0] [oB 138 (bs (z03 a0))] (z3t r) (z3u r)) (ih_parse_reader_parens:∀ (a0:z00) (r:(z00 × z06)),z1l n a0=some r→Cs Tryz.prog (GX X) 222 [xP 0 0] [oB 138 (bs (z03 a0))] (z43 r) (z44 r)) (a0:z00) (a2:(List ByteArray)) (a3:Int) (r:(z00 × z06)) (h:z0i (n+1) a0 a2 a3=some r):Cs Tryz.prog (GX X) 196 [xP 0 0,.fn (.func 197) [.box 0 0] [],xL (List.map z09 a2),xI a3] [oB 138 (bs (z03 a0))] (z19 r) (z1a r):=by
 refine fnT (cx:=cx X) Tryz.f196 Tryz.call196 Tryz.func196 (by kernel_rfl) ?_
 rw [z0i] at h
 obtain ⟨v1,k1,h⟩:=z07 h
 refine adv (ok X) 5 [.s (z4f v1) (z4g v1)] (pA (ih_parse_reader_term _ _ k1) pT) (by kernel_rfl) ?_
 refine lp (ok X) (z2z (z1k n) (z0i n) (z1f n) (z0g n) (z0s n) (z1g n) (z1l n) a2 a3) (fun (x1:((List z0n) × Int × Int × Int × Int × Int × Int × Int × ByteArray × (List z06)))=>⟨32,1,[(0,[xP 0 0]),(1,[.fn (.func 197) [.box 0 0] []]),(2,[xL (List.map z09 a2)]),(3,[xI a3]),(8,[xP 1 0]),(9,[xP 2 0])],[oB 138 (bs (z03 (z00.mk x1.1 x1.2.1 x1.2.2.1 x1.2.2.2.1 x1.2.2.2.2.1 x1.2.2.2.2.2.1))),oB 152 [.pv (.int .i64 0),.pv (.int .i64 0),.pv (.str (ByteArray.mk #[])),.emp],oB 152 (bs (z0o (z06.mk x1.2.2.2.2.2.2.1 x1.2.2.2.2.2.2.2.1 x1.2.2.2.2.2.2.2.2.1 x1.2.2.2.2.2.2.2.2.2)))]⟩) (fun (j1:((List z0n) × Int × Int × Int × Int × Int × Int × Int × ByteArray × (List z06)))=>⟨32,1,[(8,[xP 1 0]),(9,[xP 2 0])],[oB 138 (bs (z03 (z00.mk j1.1 j1.2.1 j1.2.2.1 j1.2.2.2.1 j1.2.2.2.2.1 j1.2.2.2.2.2.1))),oB 152 [.pv (.int .i64 0),.pv (.int .i64 0),.pv (.str (ByteArray.mk #[])),.emp],oB 152 (bs (z0o (z06.mk j1.2.2.2.2.2.2.1 j1.2.2.2.2.2.2.2.1 j1.2.2.2.2.2.2.2.2.1 j1.2.2.2.2.2.2.2.2.2)))]⟩) zb0 (v1.1.f_l,v1.1.f_end,v1.1.f_e,v1.1.f_at,v1.1.f_deep,v1.1.f_in,v1.2.Kind,v1.2.Num,v1.2.Name,v1.2.Kids) (fun _=>⟨_,_,_,_,rfl⟩) h (by kernel_rfl) (fun x1 o h=>?_) (fun r' h=>?_) (fun j1 h=>?_)
 ·unfold z2z at h
  rcases iteE h with ⟨k2,h⟩|⟨k2,h⟩
  ·obtain ⟨v2,k3,h⟩:=z07 h
   refine adv (ok X) 11 [.b true,.s (z7y v2) (z7z v2)] (pA k2 (pA (z9b (X:=X) k3) pT)) (by kernel_rfl) ?_
   rcases iteE h with ⟨k4,h⟩|⟨k4,h⟩
   ·obtain rfl:=retE h
    exact fin (ok X) 2 [.b true] (pA k4 pT) (by kernel_rfl)
   ·obtain ⟨v3,k5,h⟩:=z07 h
    obtain rfl:=retE h
    exact fin (ok X) 4 [.b false,.o [0,1,2,3,4,5,6,7,8],.s (z4f v3) (z4g v3),.bl (List.map z1o [(z06.mk x1.2.2.2.2.2.2.1 x1.2.2.2.2.2.2.2.1 x1.2.2.2.2.2.2.2.2.1 x1.2.2.2.2.2.2.2.2.2),v3.2])] (pA k4 (pA (ih_parse_reader_term _ _ k5) (pA (blc (e:=z1o) (x:=(z06.mk x1.2.2.2.2.2.2.1 x1.2.2.2.2.2.2.2.1 x1.2.2.2.2.2.2.2.2.1 x1.2.2.2.2.2.2.2.2.2)) (z5e _).symm (blc (e:=z1o) (x:=v3.2) (z5e _).symm (bl0 z1o))) pT))) (by kernel_rfl)
  ·obtain rfl:=retE h
   exact fin (ok X) 5 [.b false] (pA k2 pT) (by kernel_rfl)
 ·cases h
 ·obtain rfl:=retE h
  exact fin (ok X) 3 [] pT (by kernel_rfl)
theorem zjy {n:Nat} (ih_parse_reader_expr:∀ (a0:z00) (r:(z00 × z06)),z1k n a0=some r→Cs Tryz.prog (GX X) 179 [xP 0 0] [oB 138 (bs (z03 a0))] (z2u r) (z2v r)) (ih_parse_reader_chain_parse_reader_term:∀ (a0:z00) (a2:(List ByteArray)) (a3:Int) (r:(z00 × z06)),z0i n a0 a2 a3=some r→Cs Tryz.prog (GX X) 196 [xP 0 0,.fn (.func 197) [.box 0 0] [],xL (List.map z09 a2),xI a3] [oB 138 (bs (z03 a0))] (z19 r) (z1a r)) (ih_parse_reader_term:∀ (a0:z00) (r:(z00 × z06)),z1f n a0=some r→Cs Tryz.prog (GX X) 197 [xP 0 0] [oB 138 (bs (z03 a0))] (z4f r) (z4g r)) (ih_parse_reader_chain_parse_reader_factor:∀ (a0:z00) (a2:(List ByteArray)) (a3:Int) (r:(z00 × z06)),z0g n a0 a2 a3=some r→Cs Tryz.prog (GX X) 196 [xP 0 0,.fn (.func 212) [.box 0 0] [],xL (List.map z09 a2),xI a3] [oB 138 (bs (z03 a0))] (z12 r) (z13 r)) (ih_parse_reader_factor:∀ (a0:z00) (r:(z00 × z06)),z0s n a0=some r→Cs Tryz.prog (GX X) 212 [xP 0 0] [oB 138 (bs (z03 a0))] (z3c r) (z3d r)) (ih_parse_reader_negated:∀ (a0:z00) (r:(z00 × z06)),z1g n a0=some r→Cs Tryz.prog (GX X) 221 [xP 0 0] [oB 138 (bs (z03 a0))] (z3t r) (z3u r)) (ih_parse_reader_parens:∀ (a0:z00) (r:(z00 × z06)),z1l n a0=some r→Cs Tryz.prog (GX X) 222 [xP 0 0] [oB 138 (bs (z03 a0))] (z43 r) (z44 r)) (a0:z00) (r:(z00 × z06)) (h:z1f (n+1) a0=some r):Cs Tryz.prog (GX X) 197 [xP 0 0] [oB 138 (bs (z03 a0))] (z4f r) (z4g r):=by
 refine fnT (cx:=cx X) Tryz.f197 Tryz.call197 Tryz.func197 (by kernel_rfl) ?_
 rw [z1f] at h
 obtain ⟨v1,k1,h⟩:=z07 h
 obtain rfl:=retE h
 exact fin (ok X) 5 [.s (z12 v1) (z13 v1)] (pA (ih_parse_reader_chain_parse_reader_factor _ _ _ _ k1) pT) (by kernel_rfl)
theorem za9 {n:Nat} (ih_parse_reader_expr:∀ (a0:z00) (r:(z00 × z06)),z1k n a0=some r→Cs Tryz.prog (GX X) 179 [xP 0 0] [oB 138 (bs (z03 a0))] (z2u r) (z2v r)) (ih_parse_reader_chain_parse_reader_term:∀ (a0:z00) (a2:(List ByteArray)) (a3:Int) (r:(z00 × z06)),z0i n a0 a2 a3=some r→Cs Tryz.prog (GX X) 196 [xP 0 0,.fn (.func 197) [.box 0 0] [],xL (List.map z09 a2),xI a3] [oB 138 (bs (z03 a0))] (z19 r) (z1a r)) (ih_parse_reader_term:∀ (a0:z00) (r:(z00 × z06)),z1f n a0=some r→Cs Tryz.prog (GX X) 197 [xP 0 0] [oB 138 (bs (z03 a0))] (z4f r) (z4g r)) (ih_parse_reader_chain_parse_reader_factor:∀ (a0:z00) (a2:(List ByteArray)) (a3:Int) (r:(z00 × z06)),z0g n a0 a2 a3=some r→Cs Tryz.prog (GX X) 196 [xP 0 0,.fn (.func 212) [.box 0 0] [],xL (List.map z09 a2),xI a3] [oB 138 (bs (z03 a0))] (z12 r) (z13 r)) (ih_parse_reader_factor:∀ (a0:z00) (r:(z00 × z06)),z0s n a0=some r→Cs Tryz.prog (GX X) 212 [xP 0 0] [oB 138 (bs (z03 a0))] (z3c r) (z3d r)) (ih_parse_reader_negated:∀ (a0:z00) (r:(z00 × z06)),z1g n a0=some r→Cs Tryz.prog (GX X) 221 [xP 0 0] [oB 138 (bs (z03 a0))] (z3t r) (z3u r)) (ih_parse_reader_parens:∀ (a0:z00) (r:(z00 × z06)),z1l n a0=some r→Cs Tryz.prog (GX X) 222 [xP 0 0] [oB 138 (bs (z03 a0))] (z43 r) (z44 r)) (a0:z00) (a2:(List ByteArray)) (a3:Int) (r:(z00 × z06)) (h:z0g (n+1) a0 a2 a3=some r):Cs Tryz.prog (GX X) 196 [xP 0 0,.fn (.func 212) [.box 0 0] [],xL (List.map z09 a2),xI a3] [oB 138 (bs (z03 a0))] (z12 r) (z13 r):=by
 refine fnT (cx:=cx X) Tryz.f196 Tryz.call196 Tryz.func196 (by kernel_rfl) ?_
 rw [z0g] at h
 obtain ⟨v1,k1,h⟩:=z07 h
 refine adv (ok X) 5 [.s (z3c v1) (z3d v1)] (pA (ih_parse_reader_factor _ _ k1) pT) (by kernel_rfl) ?_
 refine lp (ok X) (z2r (z1k n) (z0i n) (z1f n) (z0g n) (z0s n) (z1g n) (z1l n) a2 a3) (fun (x1:((List z0n) × Int × Int × Int × Int × Int × Int × Int × ByteArray × (List z06)))=>⟨32,1,[(0,[xP 0 0]),(1,[.fn (.func 212) [.box 0 0] []]),(2,[xL (List.map z09 a2)]),(3,[xI a3]),(8,[xP 1 0]),(9,[xP 2 0])],[oB 138 (bs (z03 (z00.mk x1.1 x1.2.1 x1.2.2.1 x1.2.2.2.1 x1.2.2.2.2.1 x1.2.2.2.2.2.1))),oB 152 [.pv (.int .i64 0),.pv (.int .i64 0),.pv (.str (ByteArray.mk #[])),.emp],oB 152 (bs (z0o (z06.mk x1.2.2.2.2.2.2.1 x1.2.2.2.2.2.2.2.1 x1.2.2.2.2.2.2.2.2.1 x1.2.2.2.2.2.2.2.2.2)))]⟩) (fun (j1:((List z0n) × Int × Int × Int × Int × Int × Int × Int × ByteArray × (List z06)))=>⟨32,1,[(8,[xP 1 0]),(9,[xP 2 0])],[oB 138 (bs (z03 (z00.mk j1.1 j1.2.1 j1.2.2.1 j1.2.2.2.1 j1.2.2.2.2.1 j1.2.2.2.2.2.1))),oB 152 [.pv (.int .i64 0),.pv (.int .i64 0),.pv (.str (ByteArray.mk #[])),.emp],oB 152 (bs (z0o (z06.mk j1.2.2.2.2.2.2.1 j1.2.2.2.2.2.2.2.1 j1.2.2.2.2.2.2.2.2.1 j1.2.2.2.2.2.2.2.2.2)))]⟩) za8 (v1.1.f_l,v1.1.f_end,v1.1.f_e,v1.1.f_at,v1.1.f_deep,v1.1.f_in,v1.2.Kind,v1.2.Num,v1.2.Name,v1.2.Kids) (fun _=>⟨_,_,_,_,rfl⟩) h (by kernel_rfl) (fun x1 o h=>?_) (fun r' h=>?_) (fun j1 h=>?_)
 ·unfold z2r at h
  rcases iteE h with ⟨k2,h⟩|⟨k2,h⟩
  ·obtain ⟨v2,k3,h⟩:=z07 h
   refine adv (ok X) 11 [.b true,.s (z7y v2) (z7z v2)] (pA k2 (pA (z9b (X:=X) k3) pT)) (by kernel_rfl) ?_
   rcases iteE h with ⟨k4,h⟩|⟨k4,h⟩
   ·obtain rfl:=retE h
    exact fin (ok X) 2 [.b true] (pA k4 pT) (by kernel_rfl)
   ·obtain ⟨v3,k5,h⟩:=z07 h
    obtain rfl:=retE h
    exact fin (ok X) 4 [.b false,.o [0,1,2,3,4,5,6,7,8],.s (z3c v3) (z3d v3),.bl (List.map z1o [(z06.mk x1.2.2.2.2.2.2.1 x1.2.2.2.2.2.2.2.1 x1.2.2.2.2.2.2.2.2.1 x1.2.2.2.2.2.2.2.2.2),v3.2])] (pA k4 (pA (ih_parse_reader_factor _ _ k5) (pA (blc (e:=z1o) (x:=(z06.mk x1.2.2.2.2.2.2.1 x1.2.2.2.2.2.2.2.1 x1.2.2.2.2.2.2.2.2.1 x1.2.2.2.2.2.2.2.2.2)) (z5e _).symm (blc (e:=z1o) (x:=v3.2) (z5e _).symm (bl0 z1o))) pT))) (by kernel_rfl)
  ·obtain rfl:=retE h
   exact fin (ok X) 5 [.b false] (pA k2 pT) (by kernel_rfl)
 ·cases h
 ·obtain rfl:=retE h
  exact fin (ok X) 3 [] pT (by kernel_rfl)
theorem zi5 {n:Nat} (ih_parse_reader_expr:∀ (a0:z00) (r:(z00 × z06)),z1k n a0=some r→Cs Tryz.prog (GX X) 179 [xP 0 0] [oB 138 (bs (z03 a0))] (z2u r) (z2v r)) (ih_parse_reader_chain_parse_reader_term:∀ (a0:z00) (a2:(List ByteArray)) (a3:Int) (r:(z00 × z06)),z0i n a0 a2 a3=some r→Cs Tryz.prog (GX X) 196 [xP 0 0,.fn (.func 197) [.box 0 0] [],xL (List.map z09 a2),xI a3] [oB 138 (bs (z03 a0))] (z19 r) (z1a r)) (ih_parse_reader_term:∀ (a0:z00) (r:(z00 × z06)),z1f n a0=some r→Cs Tryz.prog (GX X) 197 [xP 0 0] [oB 138 (bs (z03 a0))] (z4f r) (z4g r)) (ih_parse_reader_chain_parse_reader_factor:∀ (a0:z00) (a2:(List ByteArray)) (a3:Int) (r:(z00 × z06)),z0g n a0 a2 a3=some r→Cs Tryz.prog (GX X) 196 [xP 0 0,.fn (.func 212) [.box 0 0] [],xL (List.map z09 a2),xI a3] [oB 138 (bs (z03 a0))] (z12 r) (z13 r)) (ih_parse_reader_factor:∀ (a0:z00) (r:(z00 × z06)),z0s n a0=some r→Cs Tryz.prog (GX X) 212 [xP 0 0] [oB 138 (bs (z03 a0))] (z3c r) (z3d r)) (ih_parse_reader_negated:∀ (a0:z00) (r:(z00 × z06)),z1g n a0=some r→Cs Tryz.prog (GX X) 221 [xP 0 0] [oB 138 (bs (z03 a0))] (z3t r) (z3u r)) (ih_parse_reader_parens:∀ (a0:z00) (r:(z00 × z06)),z1l n a0=some r→Cs Tryz.prog (GX X) 222 [xP 0 0] [oB 138 (bs (z03 a0))] (z43 r) (z44 r)) (a0:z00) (r:(z00 × z06)) (h:z0s (n+1) a0=some r):Cs Tryz.prog (GX X) 212 [xP 0 0] [oB 138 (bs (z03 a0))] (z3c r) (z3d r):=by
 refine fnT (cx:=cx X) Tryz.f212 Tryz.call212 Tryz.func212 (by kernel_rfl) ?_
 rw [z0s] at h
 obtain ⟨v1,k1,h⟩:=z07 h
 refine adv (ok X) 6 [.s (z5o v1) (z5p a0 v1)] (pA (z6a (X:=X) k1) pT) (by kernel_rfl) ?_
 rcases iteE h with ⟨k2,h⟩|⟨k2,h⟩
 ·obtain ⟨v2,k3,h⟩:=z07 h
  obtain rfl:=retE h
  exact fin (ok X) 4 [.b true,.s (z3t v2) (z3u v2)] (pA k2 (pA (ih_parse_reader_negated _ _ k3) pT)) (by kernel_rfl)
 ·obtain ⟨v3,k4,h⟩:=z07 h
  refine adv (ok X) 3 [.b false,.s (z5o v3) (z5p a0 v3)] (pA k2 (pA (z6a (X:=X) k4) pT)) (by kernel_rfl) ?_
  rcases iteE h with ⟨k5,h⟩|⟨k5,h⟩
  ·obtain ⟨v4,k6,h⟩:=z07 h
   obtain rfl:=retE h
   exact fin (ok X) 4 [.b true,.s (z43 v4) (z44 v4)] (pA k5 (pA (ih_parse_reader_parens _ _ k6) pT)) (by kernel_rfl)
  ·obtain ⟨v5,k7,h⟩:=z07 h
   refine adv (ok X) 3 [.b false,.s (zay v5) (zaz a0 v5)] (pA k5 (pA (zd9 (X:=X) k7) pT)) (by kernel_rfl) ?_
   rcases iteE h with ⟨k8,h⟩|⟨k8,h⟩
   ·obtain ⟨v6,k9,h⟩:=z07 h
    obtain rfl:=retE h
    exact fin (ok X) 4 [.b true,.s (z7j v6) (z7k v6)] (pA k8 (pA (z8v (X:=X) k9) pT)) (by kernel_rfl)
   ·obtain ⟨v7,k10,h⟩:=z07 h
    obtain rfl:=retE h
    exact fin (ok X) 6 [.b false,.s (z2a v7) (z2b v7)] (pA k8 (pA (z2i (X:=X) k10) pT)) (by kernel_rfl)
theorem zhc {n:Nat} (ih_parse_reader_expr:∀ (a0:z00) (r:(z00 × z06)),z1k n a0=some r→Cs Tryz.prog (GX X) 179 [xP 0 0] [oB 138 (bs (z03 a0))] (z2u r) (z2v r)) (ih_parse_reader_chain_parse_reader_term:∀ (a0:z00) (a2:(List ByteArray)) (a3:Int) (r:(z00 × z06)),z0i n a0 a2 a3=some r→Cs Tryz.prog (GX X) 196 [xP 0 0,.fn (.func 197) [.box 0 0] [],xL (List.map z09 a2),xI a3] [oB 138 (bs (z03 a0))] (z19 r) (z1a r)) (ih_parse_reader_term:∀ (a0:z00) (r:(z00 × z06)),z1f n a0=some r→Cs Tryz.prog (GX X) 197 [xP 0 0] [oB 138 (bs (z03 a0))] (z4f r) (z4g r)) (ih_parse_reader_chain_parse_reader_factor:∀ (a0:z00) (a2:(List ByteArray)) (a3:Int) (r:(z00 × z06)),z0g n a0 a2 a3=some r→Cs Tryz.prog (GX X) 196 [xP 0 0,.fn (.func 212) [.box 0 0] [],xL (List.map z09 a2),xI a3] [oB 138 (bs (z03 a0))] (z12 r) (z13 r)) (ih_parse_reader_factor:∀ (a0:z00) (r:(z00 × z06)),z0s n a0=some r→Cs Tryz.prog (GX X) 212 [xP 0 0] [oB 138 (bs (z03 a0))] (z3c r) (z3d r)) (ih_parse_reader_negated:∀ (a0:z00) (r:(z00 × z06)),z1g n a0=some r→Cs Tryz.prog (GX X) 221 [xP 0 0] [oB 138 (bs (z03 a0))] (z3t r) (z3u r)) (ih_parse_reader_parens:∀ (a0:z00) (r:(z00 × z06)),z1l n a0=some r→Cs Tryz.prog (GX X) 222 [xP 0 0] [oB 138 (bs (z03 a0))] (z43 r) (z44 r)) (a0:z00) (r:(z00 × z06)) (h:z1g (n+1) a0=some r):Cs Tryz.prog (GX X) 221 [xP 0 0] [oB 138 (bs (z03 a0))] (z3t r) (z3u r):=by
 refine fnT (cx:=cx X) Tryz.f221 Tryz.call221 Tryz.func221 (by kernel_rfl) ?_
 rw [z1g] at h
 obtain ⟨v1,k1,h⟩:=z07 h
 refine adv (ok X) 5 [.s (zb8 v1) (zb9 v1)] (pA (ze5 (X:=X) k1) pT) (by kernel_rfl) ?_
 rcases iteE h with ⟨k2,h⟩|⟨k2,h⟩
 ·obtain rfl:=retE h
  exact fin (ok X) 4 [.b true] (pA k2 pT) (by kernel_rfl)
 ·obtain ⟨v2,k3,h⟩:=z07 h
  obtain ⟨v3,k4,h⟩:=z07 h
  obtain rfl:=retE h
  exact fin (ok X) 11 [.b false,.s (z0w v2) (z0x v2),.s (z3c v3) (z3d v3),.bl (List.map z1o [v3.2])] (pA k2 (pA (z0z (X:=X) k3) (pA (ih_parse_reader_factor _ _ k4) (pA (blc (e:=z1o) (x:=v3.2) (z5e _).symm (bl0 z1o)) pT)))) (by kernel_rfl)
theorem zi6 {n:Nat} (ih_parse_reader_expr:∀ (a0:z00) (r:(z00 × z06)),z1k n a0=some r→Cs Tryz.prog (GX X) 179 [xP 0 0] [oB 138 (bs (z03 a0))] (z2u r) (z2v r)) (ih_parse_reader_chain_parse_reader_term:∀ (a0:z00) (a2:(List ByteArray)) (a3:Int) (r:(z00 × z06)),z0i n a0 a2 a3=some r→Cs Tryz.prog (GX X) 196 [xP 0 0,.fn (.func 197) [.box 0 0] [],xL (List.map z09 a2),xI a3] [oB 138 (bs (z03 a0))] (z19 r) (z1a r)) (ih_parse_reader_term:∀ (a0:z00) (r:(z00 × z06)),z1f n a0=some r→Cs Tryz.prog (GX X) 197 [xP 0 0] [oB 138 (bs (z03 a0))] (z4f r) (z4g r)) (ih_parse_reader_chain_parse_reader_factor:∀ (a0:z00) (a2:(List ByteArray)) (a3:Int) (r:(z00 × z06)),z0g n a0 a2 a3=some r→Cs Tryz.prog (GX X) 196 [xP 0 0,.fn (.func 212) [.box 0 0] [],xL (List.map z09 a2),xI a3] [oB 138 (bs (z03 a0))] (z12 r) (z13 r)) (ih_parse_reader_factor:∀ (a0:z00) (r:(z00 × z06)),z0s n a0=some r→Cs Tryz.prog (GX X) 212 [xP 0 0] [oB 138 (bs (z03 a0))] (z3c r) (z3d r)) (ih_parse_reader_negated:∀ (a0:z00) (r:(z00 × z06)),z1g n a0=some r→Cs Tryz.prog (GX X) 221 [xP 0 0] [oB 138 (bs (z03 a0))] (z3t r) (z3u r)) (ih_parse_reader_parens:∀ (a0:z00) (r:(z00 × z06)),z1l n a0=some r→Cs Tryz.prog (GX X) 222 [xP 0 0] [oB 138 (bs (z03 a0))] (z43 r) (z44 r)) (a0:z00) (r:(z00 × z06)) (h:z1l (n+1) a0=some r):Cs Tryz.prog (GX X) 222 [xP 0 0] [oB 138 (bs (z03 a0))] (z43 r) (z44 r):=by
 refine fnT (cx:=cx X) Tryz.f222 Tryz.call222 Tryz.func222 (by kernel_rfl) ?_
 rw [z1l] at h
 obtain ⟨v1,k1,h⟩:=z07 h
 refine adv (ok X) 5 [.s (zb8 v1) (zb9 v1)] (pA (ze5 (X:=X) k1) pT) (by kernel_rfl) ?_
 rcases iteE h with ⟨k2,h⟩|⟨k2,h⟩
 ·obtain rfl:=retE h
  exact fin (ok X) 4 [.b true] (pA k2 pT) (by kernel_rfl)
 ·obtain ⟨v2,k3,h⟩:=z07 h
  obtain ⟨v3,k4,h⟩:=z07 h
  obtain ⟨v4,k5,h⟩:=z07 h
  obtain rfl:=retE h
  exact fin (ok X) 13 [.b false,.s (z0w v2) (z0x v2),.s (z2u v3) (z2v v3),.s (z0w v4) (z0x v4)] (pA k2 (pA (z0z (X:=X) k3) (pA (ih_parse_reader_expr _ _ k4) (pA (z0z (X:=X) k5) pT)))) (by kernel_rfl)
theorem zdq:∀ n:Nat,(∀ (a0:z00) (r:(z00 × z06)),z1k n a0=some r→Cs Tryz.prog (GX X) 179 [xP 0 0] [oB 138 (bs (z03 a0))] (z2u r) (z2v r))∧(∀ (a0:z00) (a2:(List ByteArray)) (a3:Int) (r:(z00 × z06)),z0i n a0 a2 a3=some r→Cs Tryz.prog (GX X) 196 [xP 0 0,.fn (.func 197) [.box 0 0] [],xL (List.map z09 a2),xI a3] [oB 138 (bs (z03 a0))] (z19 r) (z1a r))∧(∀ (a0:z00) (r:(z00 × z06)),z1f n a0=some r→Cs Tryz.prog (GX X) 197 [xP 0 0] [oB 138 (bs (z03 a0))] (z4f r) (z4g r))∧(∀ (a0:z00) (a2:(List ByteArray)) (a3:Int) (r:(z00 × z06)),z0g n a0 a2 a3=some r→Cs Tryz.prog (GX X) 196 [xP 0 0,.fn (.func 212) [.box 0 0] [],xL (List.map z09 a2),xI a3] [oB 138 (bs (z03 a0))] (z12 r) (z13 r))∧(∀ (a0:z00) (r:(z00 × z06)),z0s n a0=some r→Cs Tryz.prog (GX X) 212 [xP 0 0] [oB 138 (bs (z03 a0))] (z3c r) (z3d r))∧(∀ (a0:z00) (r:(z00 × z06)),z1g n a0=some r→Cs Tryz.prog (GX X) 221 [xP 0 0] [oB 138 (bs (z03 a0))] (z3t r) (z3u r))∧(∀ (a0:z00) (r:(z00 × z06)),z1l n a0=some r→Cs Tryz.prog (GX X) 222 [xP 0 0] [oB 138 (bs (z03 a0))] (z43 r) (z44 r))
 | 0=>⟨(fun _ _ h=>by rw [z1k] at h;cases h),(fun _ _ _ _ h=>by rw [z0i] at h;cases h),(fun _ _ h=>by rw [z1f] at h;cases h),(fun _ _ _ _ h=>by rw [z0g] at h;cases h),(fun _ _ h=>by rw [z0s] at h;cases h),(fun _ _ h=>by rw [z1g] at h;cases h),(fun _ _ h=>by rw [z1l] at h;cases h)⟩
 | n+1=>by
  have ih:=zdq n
  exact ⟨zjx ih.1 ih.2.1 ih.2.2.1 ih.2.2.2.1 ih.2.2.2.2.1 ih.2.2.2.2.2.1 ih.2.2.2.2.2.2,zb3 ih.1 ih.2.1 ih.2.2.1 ih.2.2.2.1 ih.2.2.2.2.1 ih.2.2.2.2.2.1 ih.2.2.2.2.2.2,zjy ih.1 ih.2.1 ih.2.2.1 ih.2.2.2.1 ih.2.2.2.2.1 ih.2.2.2.2.2.1 ih.2.2.2.2.2.2,za9 ih.1 ih.2.1 ih.2.2.1 ih.2.2.2.1 ih.2.2.2.2.1 ih.2.2.2.2.2.1 ih.2.2.2.2.2.2,zi5 ih.1 ih.2.1 ih.2.2.1 ih.2.2.2.1 ih.2.2.2.2.1 ih.2.2.2.2.2.1 ih.2.2.2.2.2.2,zhc ih.1 ih.2.1 ih.2.2.1 ih.2.2.2.1 ih.2.2.2.2.1 ih.2.2.2.2.2.1 ih.2.2.2.2.2.2,zi6 ih.1 ih.2.1 ih.2.2.1 ih.2.2.2.1 ih.2.2.2.2.1 ih.2.2.2.2.2.1 ih.2.2.2.2.2.2⟩
theorem z9u {a0:z00} {r:(z00 × z06)} (h:z5y a0=some r):Cs Tryz.prog (GX X) 179 [xP 0 0] [oB 138 (bs (z03 a0))] (z2u r) (z2v r):=by
 obtain ⟨n,hn⟩:=unfE h
 exact (zdq n).1 _ _ hn
theorem zjz {a0:z00} {r:(z00 × z05)} (h:z84 a0=some r):Cs Tryz.prog (GX X) 156 [xP 0 0] [oB 138 (bs (z03 a0))] (zes r) (zet r):=by
 refine fnT (cx:=cx X) Tryz.f156 Tryz.call156 Tryz.func156 (by kernel_rfl) ?_
 unfold z84 at h
 obtain ⟨v1,k1,h⟩:=z07 h
 obtain ⟨v2,k2,h⟩:=z07 h
 obtain ⟨v3,k3,h⟩:=z07 h
 obtain ⟨v4,k4,h⟩:=z07 h
 obtain ⟨v5,k5,h⟩:=z07 h
 obtain ⟨v6,k6,h⟩:=z07 h
 obtain ⟨v7,k7,h⟩:=z07 h
 obtain rfl:=retE h
 exact fin (ok X) 19 [.s (z2a v1) (z2b v1),.s (z0w v2) (z0x v2),.s (z2a v3) (z2b v3),.s (z0w v4) (z0x v4),.s (z2u v5) (z2v v5),.s (z0w v6) (z0x v6),.s (z0w v7) (z0x v7)] (pA (z2i (X:=X) k1) (pA (z0z (X:=X) k2) (pA (z2i (X:=X) k3) (pA (z0z (X:=X) k4) (pA (z9u (X:=X) k5) (pA (z0z (X:=X) k6) (pA (z0z (X:=X) k7) pT))))))) (by kernel_rfl)
theorem zbz {a0:z00} {r:(z00 × z4j)} (h:z5z a0=some r):Cs Tryz.prog (GX X) 177 [xP 0 0] [oB 138 (bs (z03 a0))] (z9r r) (z9s r):=by
 refine fnT (cx:=cx X) Tryz.f177 Tryz.call177 Tryz.func177 (by kernel_rfl) ?_
 unfold z5z at h
 obtain ⟨v1,k1,h⟩:=z07 h
 obtain ⟨v2,k2,h⟩:=z07 h
 obtain ⟨v3,k3,h⟩:=z07 h
 refine adv (ok X) 11 [.s (z0w v1) (z0x v1),.s (z2u v2) (z2v v2),.s (z7y v3) (z7z v3)] (pA (z0z (X:=X) k1) (pA (z9u (X:=X) k2) (pA (z9b (X:=X) k3) pT))) (by kernel_rfl) ?_
 rcases iteE h with ⟨k4,h⟩|⟨k4,h⟩
 ·obtain ⟨v4,k5,h⟩:=z07 h
  obtain rfl:=retE h
  exact fin (ok X) 6 [.b true,.s (z5q v4) (z5r v4)] (pA k4 (pA (z6b (X:=X) k5) pT)) (by kernel_rfl)
 ·obtain ⟨v5,k6,h⟩:=z07 h
  obtain ⟨v6,k7,h⟩:=z07 h
  obtain rfl:=retE h
  exact fin (ok X) 11 [.b false,.s (z2u v5) (z2v v5),.s (z0w v6) (z0x v6)] (pA k4 (pA (z9u (X:=X) k6) (pA (z0z (X:=X) k7) pT))) (by kernel_rfl)
theorem zi7 {a0:z00} {r:(z00 × z05)} (h:z7d a0=some r):Cs Tryz.prog (GX X) 158 [xP 0 0] [oB 138 (bs (z03 a0))] (zdj r) (zdk r):=by
 refine fnT (cx:=cx X) Tryz.f158 Tryz.call158 Tryz.func158 (by kernel_rfl) ?_
 unfold z7d at h
 obtain ⟨v1,k1,h⟩:=z07 h
 obtain ⟨v2,k2,h⟩:=z07 h
 obtain rfl:=retE h
 exact fin (ok X) 9 [.s (z9r v1) (z9s v1),.s (z0w v2) (z0x v2)] (pA (zbz (X:=X) k1) (pA (z0z (X:=X) k2) pT)) (by kernel_rfl)
theorem zis {a0:z00} {r:(z00 × z05)} (h:z7r a0=some r):Cs Tryz.prog (GX X) 159 [xP 0 0] [oB 138 (bs (z03 a0))] (ze0 r) (ze1 r):=by
 refine fnT (cx:=cx X) Tryz.f159 Tryz.call159 Tryz.func159 (by kernel_rfl) ?_
 unfold z7r at h
 obtain ⟨v1,k1,h⟩:=z07 h
 obtain ⟨v2,k2,h⟩:=z07 h
 obtain rfl:=retE h
 exact fin (ok X) 9 [.s (z2a v1) (z2b v1),.s (z0w v2) (z0x v2)] (pA (z2i (X:=X) k1) (pA (z0z (X:=X) k2) pT)) (by kernel_rfl)
theorem zi8 {a0:z00} {r:(z00 × z05)} (h:z7e a0=some r):Cs Tryz.prog (GX X) 160 [xP 0 0] [oB 138 (bs (z03 a0))] (zdl r) (zdm r):=by
 refine fnT (cx:=cx X) Tryz.f160 Tryz.call160 Tryz.func160 (by kernel_rfl) ?_
 unfold z7e at h
 obtain ⟨v1,k1,h⟩:=z07 h
 obtain ⟨v2,k2,h⟩:=z07 h
 obtain ⟨v3,k3,h⟩:=z07 h
 obtain ⟨v4,k4,h⟩:=z07 h
 obtain rfl:=retE h
 exact fin (ok X) 13 [.s (z2a v1) (z2b v1),.s (z0w v2) (z0x v2),.s (z2u v3) (z2v v3),.s (z0w v4) (z0x v4)] (pA (z2i (X:=X) k1) (pA (z0z (X:=X) k2) (pA (z9u (X:=X) k3) (pA (z0z (X:=X) k4) pT)))) (by kernel_rfl)
theorem zit {n:Nat} (ih_parse_reader_stmts:∀ (a0:z00) (r:(z00 × (List z05))),z1b n a0=some r→Cs Tryz.prog (GX X) 89 [xP 0 0] [oB 138 (bs (z03 a0))] (z38 r) (z39 r)) (ih_parse_reader_stmt:∀ (a0:z00) (r:(z00 × z05 × Bool)),z0y n a0=some r→Cs Tryz.prog (GX X) 132 [xP 0 0] [oB 138 (bs (z03 a0))] (z4q r) (z4r r)) (ih_parse_reader_conditional:∀ (a0:z00) (r:(z00 × z05)),z15 n a0=some r→Cs Tryz.prog (GX X) 154 [xP 0 0] [oB 138 (bs (z03 a0))] (z2x r) (z2y r)) (ih_parse_reader_loop:∀ (a0:z00) (r:(z00 × z05)),z2d n a0=some r→Cs Tryz.prog (GX X) 155 [xP 0 0] [oB 138 (bs (z03 a0))] (z4s r) (z4t r)) (ih_parse_reader_recv:∀ (a0:z00) (r:(z00 × z05)),z26 n a0=some r→Cs Tryz.prog (GX X) 157 [xP 0 0] [oB 138 (bs (z03 a0))] (z4h r) (z4i r)) (ih_parse_reader_block:∀ (a0:z00) (r:(z00 × (List z05))),z0t n a0=some r→Cs Tryz.prog (GX X) 178 [xP 0 0] [oB 138 (bs (z03 a0))] (z3a r) (z3b r)) (ih_parse_reader_arm:∀ (a0:z00) (r:(z00 × z1r)),z1i n a0=some r→Cs Tryz.prog (GX X) 180 [xP 0 0] [oB 138 (bs (z03 a0))] (z4o r) (z4p r)) (a0:z00) (r:(z00 × (List z05))) (h:z1b (n+1) a0=some r):Cs Tryz.prog (GX X) 89 [xP 0 0] [oB 138 (bs (z03 a0))] (z38 r) (z39 r):=by
 refine fnT (cx:=cx X) Tryz.f89 Tryz.call89 Tryz.func89 (by kernel_rfl) ?_
 rw [z1b] at h
 refine adv (ok X) 4 [] pT (by kernel_rfl) ?_
 refine lp (ok X) (z8t (z1b n) (z0y n) (z15 n) (z2d n) (z26 n) (z0t n) (z1i n)) (fun (x1:((List z0n) × Int × Int × Int × Int × Int × (List z05)))=>⟨18,1,[(0,[xP 0 0]),(3,[xR 1])],[oB 138 (bs (z03 (z00.mk x1.1 x1.2.1 x1.2.2.1 x1.2.2.2.1 x1.2.2.2.2.1 x1.2.2.2.2.2.1))),oR true 157 19 (List.map z1e x1.2.2.2.2.2.2)]⟩) (fun (j1:Unit)=>⟨18,1,[],[none]⟩) zip (a0.f_l,a0.f_end,a0.f_e,a0.f_at,a0.f_deep,a0.f_in,[]) (fun _=>⟨_,_,_,_,rfl⟩) h (by kernel_rfl) (fun x1 o h=>?_) (fun r' h=>?_) (fun j1 h=>?_)
 ·unfold z8t at h
  obtain ⟨v1,k1,h⟩:=z07 h
  refine adv (ok X) 6 [.s (z4q v1) (z4r v1)] (pA (ih_parse_reader_stmt _ _ k1) pT) (by kernel_rfl) ?_
  rcases iteE h with ⟨k2,h⟩|⟨k2,h⟩
  ·obtain rfl:=retE h
   exact fin (ok X) 4 [.b true] (pA k2 pT) (by kernel_rfl)
  ·obtain ⟨v2,k3,h⟩:=z07 h
   obtain rfl:=retE h
   exact fin (ok X) 4 [.b false,.bl (List.map z1e [v1.2.1]),.l (List.map z1e v2)] (pA k2 (pA (blc (e:=z1e) (x:=v1.2.1) (zch _).symm (bl0 z1e)) (pA (apm (L:=x1.2.2.2.2.2.2) (M:=[v1.2.1]) zj1 k3) pT))) (by kernel_rfl)
 ·obtain rfl:=retE h
  kernel_rfl
 ·cases h
theorem zk0 {n:Nat} (ih_parse_reader_stmts:∀ (a0:z00) (r:(z00 × (List z05))),z1b n a0=some r→Cs Tryz.prog (GX X) 89 [xP 0 0] [oB 138 (bs (z03 a0))] (z38 r) (z39 r)) (ih_parse_reader_stmt:∀ (a0:z00) (r:(z00 × z05 × Bool)),z0y n a0=some r→Cs Tryz.prog (GX X) 132 [xP 0 0] [oB 138 (bs (z03 a0))] (z4q r) (z4r r)) (ih_parse_reader_conditional:∀ (a0:z00) (r:(z00 × z05)),z15 n a0=some r→Cs Tryz.prog (GX X) 154 [xP 0 0] [oB 138 (bs (z03 a0))] (z2x r) (z2y r)) (ih_parse_reader_loop:∀ (a0:z00) (r:(z00 × z05)),z2d n a0=some r→Cs Tryz.prog (GX X) 155 [xP 0 0] [oB 138 (bs (z03 a0))] (z4s r) (z4t r)) (ih_parse_reader_recv:∀ (a0:z00) (r:(z00 × z05)),z26 n a0=some r→Cs Tryz.prog (GX X) 157 [xP 0 0] [oB 138 (bs (z03 a0))] (z4h r) (z4i r)) (ih_parse_reader_block:∀ (a0:z00) (r:(z00 × (List z05))),z0t n a0=some r→Cs Tryz.prog (GX X) 178 [xP 0 0] [oB 138 (bs (z03 a0))] (z3a r) (z3b r)) (ih_parse_reader_arm:∀ (a0:z00) (r:(z00 × z1r)),z1i n a0=some r→Cs Tryz.prog (GX X) 180 [xP 0 0] [oB 138 (bs (z03 a0))] (z4o r) (z4p r)) (a0:z00) (r:(z00 × z05 × Bool)) (h:z0y (n+1) a0=some r):Cs Tryz.prog (GX X) 132 [xP 0 0] [oB 138 (bs (z03 a0))] (z4q r) (z4r r):=by
 refine fnT (cx:=cx X) Tryz.f132 Tryz.call132 Tryz.func132 (by kernel_rfl) ?_
 rw [z0y] at h
 obtain ⟨v1,k1,h⟩:=z07 h
 refine adv (ok X) 6 [.s (z2s v1) (z2t v1)] (pA (z32 (X:=X) k1) pT) (by kernel_rfl) ?_
 rcases iteE h with ⟨k2,h⟩|⟨k2,h⟩
 ·obtain ⟨v2,k3,h⟩:=z07 h
  obtain rfl:=retE h
  exact fin (ok X) 4 [.b true,.s (z2x v2) (z2y v2)] (pA k2 (pA (ih_parse_reader_conditional _ _ k3) pT)) (by kernel_rfl)
 ·obtain ⟨v3,k4,h⟩:=z07 h
  refine adv (ok X) 3 [.b false,.s (z2s v3) (z2t v3)] (pA k2 (pA (z32 (X:=X) k4) pT)) (by kernel_rfl) ?_
  rcases iteE h with ⟨k5,h⟩|⟨k5,h⟩
  ·obtain ⟨v4,k6,h⟩:=z07 h
   obtain rfl:=retE h
   exact fin (ok X) 4 [.b true,.s (z4s v4) (z4t v4)] (pA k5 (pA (ih_parse_reader_loop _ _ k6) pT)) (by kernel_rfl)
  ·obtain ⟨v5,k7,h⟩:=z07 h
   refine adv (ok X) 3 [.b false,.s (z2s v5) (z2t v5)] (pA k5 (pA (z32 (X:=X) k7) pT)) (by kernel_rfl) ?_
   rcases iteE h with ⟨k8,h⟩|⟨k8,h⟩
   ·obtain ⟨v6,k9,h⟩:=z07 h
    obtain rfl:=retE h
    exact fin (ok X) 4 [.b true,.s (zes v6) (zet v6)] (pA k8 (pA (zjz (X:=X) k9) pT)) (by kernel_rfl)
   ·obtain ⟨v7,k10,h⟩:=z07 h
    refine adv (ok X) 3 [.b false,.s (z2s v7) (z2t v7)] (pA k8 (pA (z32 (X:=X) k10) pT)) (by kernel_rfl) ?_
    rcases iteE h with ⟨k11,h⟩|⟨k11,h⟩
    ·obtain ⟨v8,k12,h⟩:=z07 h
     obtain rfl:=retE h
     exact fin (ok X) 4 [.b true,.s (z4h v8) (z4i v8)] (pA k11 (pA (ih_parse_reader_recv _ _ k12) pT)) (by kernel_rfl)
    ·obtain ⟨v9,k13,h⟩:=z07 h
     refine adv (ok X) 3 [.b false,.s (z2s v9) (z2t v9)] (pA k11 (pA (z32 (X:=X) k13) pT)) (by kernel_rfl) ?_
     rcases iteE h with ⟨k14,h⟩|⟨k14,h⟩
     ·obtain ⟨v10,k15,h⟩:=z07 h
      obtain rfl:=retE h
      exact fin (ok X) 4 [.b true,.s (zdj v10) (zdk v10)] (pA k14 (pA (zi7 (X:=X) k15) pT)) (by kernel_rfl)
     ·obtain ⟨v11,k16,h⟩:=z07 h
      refine adv (ok X) 3 [.b false,.s (z2s v11) (z2t v11)] (pA k14 (pA (z32 (X:=X) k16) pT)) (by kernel_rfl) ?_
      rcases iteE h with ⟨k17,h⟩|⟨k17,h⟩
      ·obtain ⟨v12,k18,h⟩:=z07 h
       obtain rfl:=retE h
       exact fin (ok X) 4 [.b true,.s (ze0 v12) (ze1 v12)] (pA k17 (pA (zis (X:=X) k18) pT)) (by kernel_rfl)
      ·obtain ⟨v13,k19,h⟩:=z07 h
       refine adv (ok X) 3 [.b false,.s (zay v13) (zaz v11.1 v13)] (pA k17 (pA (zd9 (X:=X) k19) pT)) (by kernel_rfl) ?_
       rcases iteE h with ⟨k20,h⟩|⟨k20,h⟩
       ·obtain ⟨v14,k21,h⟩:=z07 h
        obtain rfl:=retE h
        exact fin (ok X) 4 [.b true,.s (zdl v14) (zdm v14)] (pA k20 (pA (zi8 (X:=X) k21) pT)) (by kernel_rfl)
       ·obtain rfl:=retE h
        exact fin (ok X) 6 [.b false] (pA k20 pT) (by kernel_rfl)
theorem zf6 {n:Nat} (ih_parse_reader_stmts:∀ (a0:z00) (r:(z00 × (List z05))),z1b n a0=some r→Cs Tryz.prog (GX X) 89 [xP 0 0] [oB 138 (bs (z03 a0))] (z38 r) (z39 r)) (ih_parse_reader_stmt:∀ (a0:z00) (r:(z00 × z05 × Bool)),z0y n a0=some r→Cs Tryz.prog (GX X) 132 [xP 0 0] [oB 138 (bs (z03 a0))] (z4q r) (z4r r)) (ih_parse_reader_conditional:∀ (a0:z00) (r:(z00 × z05)),z15 n a0=some r→Cs Tryz.prog (GX X) 154 [xP 0 0] [oB 138 (bs (z03 a0))] (z2x r) (z2y r)) (ih_parse_reader_loop:∀ (a0:z00) (r:(z00 × z05)),z2d n a0=some r→Cs Tryz.prog (GX X) 155 [xP 0 0] [oB 138 (bs (z03 a0))] (z4s r) (z4t r)) (ih_parse_reader_recv:∀ (a0:z00) (r:(z00 × z05)),z26 n a0=some r→Cs Tryz.prog (GX X) 157 [xP 0 0] [oB 138 (bs (z03 a0))] (z4h r) (z4i r)) (ih_parse_reader_block:∀ (a0:z00) (r:(z00 × (List z05))),z0t n a0=some r→Cs Tryz.prog (GX X) 178 [xP 0 0] [oB 138 (bs (z03 a0))] (z3a r) (z3b r)) (ih_parse_reader_arm:∀ (a0:z00) (r:(z00 × z1r)),z1i n a0=some r→Cs Tryz.prog (GX X) 180 [xP 0 0] [oB 138 (bs (z03 a0))] (z4o r) (z4p r)) (a0:z00) (r:(z00 × z05)) (h:z15 (n+1) a0=some r):Cs Tryz.prog (GX X) 154 [xP 0 0] [oB 138 (bs (z03 a0))] (z2x r) (z2y r):=by
 refine fnT (cx:=cx X) Tryz.f154 Tryz.call154 Tryz.func154 (by kernel_rfl) ?_
 rw [z15] at h
 obtain ⟨v1,k1,h⟩:=z07 h
 obtain ⟨v2,k2,h⟩:=z07 h
 obtain ⟨v3,k3,h⟩:=z07 h
 refine adv (ok X) 9 [.s (z9r v1) (z9s v1),.s (z3a v2) (z3b v2),.s (z2s v3) (z2t v3)] (pA (zbz (X:=X) k1) (pA (ih_parse_reader_block _ _ k2) (pA (z32 (X:=X) k3) pT))) (by kernel_rfl) ?_
 rcases iteE h with ⟨k4,h⟩|⟨k4,h⟩
 ·obtain ⟨v4,k5,h⟩:=z07 h
  obtain rfl:=retE h
  exact fin (ok X) 5 [.b true,.s (z3a v4) (z3b v4)] (pA k4 (pA (ih_parse_reader_block _ _ k5) pT)) (by kernel_rfl)
 ·obtain rfl:=retE h
  exact fin (ok X) 5 [.b false] (pA k4 pT) (by kernel_rfl)
theorem zk1 {n:Nat} (ih_parse_reader_stmts:∀ (a0:z00) (r:(z00 × (List z05))),z1b n a0=some r→Cs Tryz.prog (GX X) 89 [xP 0 0] [oB 138 (bs (z03 a0))] (z38 r) (z39 r)) (ih_parse_reader_stmt:∀ (a0:z00) (r:(z00 × z05 × Bool)),z0y n a0=some r→Cs Tryz.prog (GX X) 132 [xP 0 0] [oB 138 (bs (z03 a0))] (z4q r) (z4r r)) (ih_parse_reader_conditional:∀ (a0:z00) (r:(z00 × z05)),z15 n a0=some r→Cs Tryz.prog (GX X) 154 [xP 0 0] [oB 138 (bs (z03 a0))] (z2x r) (z2y r)) (ih_parse_reader_loop:∀ (a0:z00) (r:(z00 × z05)),z2d n a0=some r→Cs Tryz.prog (GX X) 155 [xP 0 0] [oB 138 (bs (z03 a0))] (z4s r) (z4t r)) (ih_parse_reader_recv:∀ (a0:z00) (r:(z00 × z05)),z26 n a0=some r→Cs Tryz.prog (GX X) 157 [xP 0 0] [oB 138 (bs (z03 a0))] (z4h r) (z4i r)) (ih_parse_reader_block:∀ (a0:z00) (r:(z00 × (List z05))),z0t n a0=some r→Cs Tryz.prog (GX X) 178 [xP 0 0] [oB 138 (bs (z03 a0))] (z3a r) (z3b r)) (ih_parse_reader_arm:∀ (a0:z00) (r:(z00 × z1r)),z1i n a0=some r→Cs Tryz.prog (GX X) 180 [xP 0 0] [oB 138 (bs (z03 a0))] (z4o r) (z4p r)) (a0:z00) (r:(z00 × z05)) (h:z2d (n+1) a0=some r):Cs Tryz.prog (GX X) 155 [xP 0 0] [oB 138 (bs (z03 a0))] (z4s r) (z4t r):=by
 refine fnT (cx:=cx X) Tryz.f155 Tryz.call155 Tryz.func155 (by kernel_rfl) ?_
 rw [z2d] at h
 obtain ⟨v1,k1,h⟩:=z07 h
 obtain ⟨v2,k2,h⟩:=z07 h
 obtain rfl:=retE h
 exact fin (ok X) 9 [.s (z9r v1) (z9s v1),.s (z3a v2) (z3b v2)] (pA (zbz (X:=X) k1) (pA (ih_parse_reader_block _ _ k2) pT)) (by kernel_rfl)
theorem zk2 {n:Nat} (ih_parse_reader_stmts:∀ (a0:z00) (r:(z00 × (List z05))),z1b n a0=some r→Cs Tryz.prog (GX X) 89 [xP 0 0] [oB 138 (bs (z03 a0))] (z38 r) (z39 r)) (ih_parse_reader_stmt:∀ (a0:z00) (r:(z00 × z05 × Bool)),z0y n a0=some r→Cs Tryz.prog (GX X) 132 [xP 0 0] [oB 138 (bs (z03 a0))] (z4q r) (z4r r)) (ih_parse_reader_conditional:∀ (a0:z00) (r:(z00 × z05)),z15 n a0=some r→Cs Tryz.prog (GX X) 154 [xP 0 0] [oB 138 (bs (z03 a0))] (z2x r) (z2y r)) (ih_parse_reader_loop:∀ (a0:z00) (r:(z00 × z05)),z2d n a0=some r→Cs Tryz.prog (GX X) 155 [xP 0 0] [oB 138 (bs (z03 a0))] (z4s r) (z4t r)) (ih_parse_reader_recv:∀ (a0:z00) (r:(z00 × z05)),z26 n a0=some r→Cs Tryz.prog (GX X) 157 [xP 0 0] [oB 138 (bs (z03 a0))] (z4h r) (z4i r)) (ih_parse_reader_block:∀ (a0:z00) (r:(z00 × (List z05))),z0t n a0=some r→Cs Tryz.prog (GX X) 178 [xP 0 0] [oB 138 (bs (z03 a0))] (z3a r) (z3b r)) (ih_parse_reader_arm:∀ (a0:z00) (r:(z00 × z1r)),z1i n a0=some r→Cs Tryz.prog (GX X) 180 [xP 0 0] [oB 138 (bs (z03 a0))] (z4o r) (z4p r)) (a0:z00) (r:(z00 × z05)) (h:z26 (n+1) a0=some r):Cs Tryz.prog (GX X) 157 [xP 0 0] [oB 138 (bs (z03 a0))] (z4h r) (z4i r):=by
 refine fnT (cx:=cx X) Tryz.f157 Tryz.call157 Tryz.func157 (by kernel_rfl) ?_
 rw [z26] at h
 obtain ⟨v1,k1,h⟩:=z07 h
 obtain ⟨v2,k2,h⟩:=z07 h
 obtain ⟨v3,k3,h⟩:=z07 h
 obtain ⟨v4,k4,h⟩:=z07 h
 refine adv (ok X) 9 [.s (z2a v1) (z2b v1),.s (z0w v2) (z0x v2),.o [0,1,2,3,4,5,6,7],.s (z4o v3) (z4p v3),.bl (List.map z3l [v3.2]),.l (List.map z3l v4)] (pA (z2i (X:=X) k1) (pA (z0z (X:=X) k2) (pA (ih_parse_reader_arm _ _ k3) (pA (blc (e:=z3l) (x:=v3.2) (zc4 _).symm (bl0 z3l)) (pA (apm (L:=[]) (M:=[v3.2]) zgu k4) pT))))) (by kernel_rfl) ?_
 refine lp (ok X) (z6u (z1b n) (z0y n) (z15 n) (z2d n) (z26 n) (z0t n) (z1i n)) (fun (x1:((List z0n) × Int × Int × Int × Int × Int × (List z1r)))=>⟨36,1,[(0,[xP 0 0]),(2,[xP 1 0]),(3,[xP 2 0])],[oB 138 (bs (z03 (z00.mk x1.1 x1.2.1 x1.2.2.1 x1.2.2.2.1 x1.2.2.2.2.1 x1.2.2.2.2.2.1))),oB 157 [.pv (.int .i64 0),.pv (.str (ByteArray.mk #[])),.pv (.str (ByteArray.mk #[])),.pv (.int .i64 0),.pv (.int .i64 0),.pv (.str (ByteArray.mk #[])),.emp,.pv (.int .i64 0),.pv (.int .i64 0),.pv (.int .i64 0),.pv (.str (ByteArray.mk #[])),.emp,.pv (.int .i64 0),.pv (.int .i64 0),.pv (.str (ByteArray.mk #[])),.emp,.emp,.emp,.emp],oB 157 [.pv (.int .i64 5),.pv (.str v1.2),.pv (.str (ByteArray.mk #[])),.pv (.int .i64 0),.pv (.int .i64 0),.pv (.str (ByteArray.mk #[])),.emp,.pv (.int .i64 0),.pv (.int .i64 0),.pv (.int .i64 0),.pv (.str (ByteArray.mk #[])),.emp,.pv (.int .i64 0),.pv (.int .i64 0),.pv (.str (ByteArray.mk #[])),.emp,.emp,.emp,.row 3],oR true 205 3 (List.map z3l x1.2.2.2.2.2.2)]⟩) (fun (j1:((List z0n) × Int × Int × Int × Int × Int × (List z1r)))=>⟨36,1,[(0,[xP 0 0]),(2,[xP 1 0]),(3,[xP 2 0])],[oB 138 (bs (z03 (z00.mk j1.1 j1.2.1 j1.2.2.1 j1.2.2.2.1 j1.2.2.2.2.1 j1.2.2.2.2.2.1))),oB 157 [.pv (.int .i64 0),.pv (.str (ByteArray.mk #[])),.pv (.str (ByteArray.mk #[])),.pv (.int .i64 0),.pv (.int .i64 0),.pv (.str (ByteArray.mk #[])),.emp,.pv (.int .i64 0),.pv (.int .i64 0),.pv (.int .i64 0),.pv (.str (ByteArray.mk #[])),.emp,.pv (.int .i64 0),.pv (.int .i64 0),.pv (.str (ByteArray.mk #[])),.emp,.emp,.emp,.emp],oB 157 [.pv (.int .i64 5),.pv (.str v1.2),.pv (.str (ByteArray.mk #[])),.pv (.int .i64 0),.pv (.int .i64 0),.pv (.str (ByteArray.mk #[])),.emp,.pv (.int .i64 0),.pv (.int .i64 0),.pv (.int .i64 0),.pv (.str (ByteArray.mk #[])),.emp,.pv (.int .i64 0),.pv (.int .i64 0),.pv (.str (ByteArray.mk #[])),.emp,.emp,.emp,.row 3],oR true 205 3 (List.map z3l j1.2.2.2.2.2.2)]⟩) zjo (v3.1.f_l,v3.1.f_end,v3.1.f_e,v3.1.f_at,v3.1.f_deep,v3.1.f_in,v4) (fun _=>⟨_,_,_,_,rfl⟩) h (by kernel_rfl) (fun x1 o h=>?_) (fun r' h=>?_) (fun j1 h=>?_)
 ·unfold z6u at h
  refine adv (ok X) 2 [] pT (by kernel_rfl) ?_
  refine jn (ok X) 1 (fun (j2:Bool)=>⟨36,1,[(0,[xP 0 0]),(2,[xP 1 0]),(3,[xP 2 0]),(25,[xB j2])],[oB 138 (bs (z03 (z00.mk x1.1 x1.2.1 x1.2.2.1 x1.2.2.2.1 x1.2.2.2.2.1 x1.2.2.2.2.2.1))),oB 157 [.pv (.int .i64 0),.pv (.str (ByteArray.mk #[])),.pv (.str (ByteArray.mk #[])),.pv (.int .i64 0),.pv (.int .i64 0),.pv (.str (ByteArray.mk #[])),.emp,.pv (.int .i64 0),.pv (.int .i64 0),.pv (.int .i64 0),.pv (.str (ByteArray.mk #[])),.emp,.pv (.int .i64 0),.pv (.int .i64 0),.pv (.str (ByteArray.mk #[])),.emp,.emp,.emp,.emp],oB 157 [.pv (.int .i64 5),.pv (.str v1.2),.pv (.str (ByteArray.mk #[])),.pv (.int .i64 0),.pv (.int .i64 0),.pv (.str (ByteArray.mk #[])),.emp,.pv (.int .i64 0),.pv (.int .i64 0),.pv (.int .i64 0),.pv (.str (ByteArray.mk #[])),.emp,.pv (.int .i64 0),.pv (.int .i64 0),.pv (.str (ByteArray.mk #[])),.emp,.emp,.emp,.row 3],oR true 205 3 (List.map z3l x1.2.2.2.2.2.2)]⟩) h (fun j2 h=>?_) (fun j2 h=>?_)
  ·rcases iteE h with ⟨k5,h⟩|⟨k5,h⟩
   ·obtain ⟨v5,k6,h⟩:=z07 h
    obtain rfl:=retE h
    exact fin (ok X) 1 [.b true,.b true,.s (z5o v5) (z5p (z00.mk x1.1 x1.2.1 x1.2.2.1 x1.2.2.2.1 x1.2.2.2.2.1 x1.2.2.2.2.2.1) v5),.b true,.b true] (pA k5 (pA k5 (pA (z6a (X:=X) k6) (pA k5 (pA k5 pT))))) (by kernel_rfl)
   ·obtain rfl:=retE h
    exact fin (ok X) 1 (bF 4 []) (pR 4 k5 pT) (by kernel_rfl)
  ·rcases iteE h with ⟨k7,h⟩|⟨k7,h⟩
   ·obtain ⟨v6,k8,h⟩:=z07 h
    obtain ⟨v7,k9,h⟩:=z07 h
    obtain rfl:=retE h
    exact fin (ok X) 5 [.b true,.o [0,1,2,3,4,5,6,7],.s (z4o v6) (z4p v6),.bl (List.map z3l [v6.2]),.l (List.map z3l v7)] (pA k7 (pA (ih_parse_reader_arm _ _ k8) (pA (blc (e:=z3l) (x:=v6.2) (zc4 _).symm (bl0 z3l)) (pA (apm (L:=x1.2.2.2.2.2.2) (M:=[v6.2]) zgu k9) pT)))) (by kernel_rfl)
   ·obtain rfl:=retE h
    exact fin (ok X) 2 [.b false] (pA k7 pT) (by kernel_rfl)
 ·cases h
 ·obtain ⟨v8,k10,h⟩:=z07 h
  obtain rfl:=retE h
  exact fin (ok X) 5 [.s (z0w v8) (z0x v8)] (pA (z0z (X:=X) k10) pT) (by kernel_rfl)
theorem ziu {n:Nat} (ih_parse_reader_stmts:∀ (a0:z00) (r:(z00 × (List z05))),z1b n a0=some r→Cs Tryz.prog (GX X) 89 [xP 0 0] [oB 138 (bs (z03 a0))] (z38 r) (z39 r)) (ih_parse_reader_stmt:∀ (a0:z00) (r:(z00 × z05 × Bool)),z0y n a0=some r→Cs Tryz.prog (GX X) 132 [xP 0 0] [oB 138 (bs (z03 a0))] (z4q r) (z4r r)) (ih_parse_reader_conditional:∀ (a0:z00) (r:(z00 × z05)),z15 n a0=some r→Cs Tryz.prog (GX X) 154 [xP 0 0] [oB 138 (bs (z03 a0))] (z2x r) (z2y r)) (ih_parse_reader_loop:∀ (a0:z00) (r:(z00 × z05)),z2d n a0=some r→Cs Tryz.prog (GX X) 155 [xP 0 0] [oB 138 (bs (z03 a0))] (z4s r) (z4t r)) (ih_parse_reader_recv:∀ (a0:z00) (r:(z00 × z05)),z26 n a0=some r→Cs Tryz.prog (GX X) 157 [xP 0 0] [oB 138 (bs (z03 a0))] (z4h r) (z4i r)) (ih_parse_reader_block:∀ (a0:z00) (r:(z00 × (List z05))),z0t n a0=some r→Cs Tryz.prog (GX X) 178 [xP 0 0] [oB 138 (bs (z03 a0))] (z3a r) (z3b r)) (ih_parse_reader_arm:∀ (a0:z00) (r:(z00 × z1r)),z1i n a0=some r→Cs Tryz.prog (GX X) 180 [xP 0 0] [oB 138 (bs (z03 a0))] (z4o r) (z4p r)) (a0:z00) (r:(z00 × (List z05))) (h:z0t (n+1) a0=some r):Cs Tryz.prog (GX X) 178 [xP 0 0] [oB 138 (bs (z03 a0))] (z3a r) (z3b r):=by
 refine fnT (cx:=cx X) Tryz.f178 Tryz.call178 Tryz.func178 (by kernel_rfl) ?_
 rw [z0t] at h
 refine adv (ok X) 4 [] pT (by kernel_rfl) ?_
 refine jn (ok X) 1 (fun (j1:Bool)=>⟨36,1,[(0,[xP 0 0]),(12,[xB j1])],[oB 138 (bs (z03 a0))]⟩) h (fun j1 h=>?_) (fun j1 h=>?_)
 ·obtain ⟨v1,k1,h⟩:=z07 h
  rcases iteE h with ⟨k2,h⟩|⟨k2,h⟩
  ·obtain rfl:=retE h
   exact fin (ok X) 1 (.s (z5o v1) (z5p a0 v1)::bT 6 []) (pA (z6a (X:=X) k1) (pR 6 k2 pT)) (by kernel_rfl)
  ·obtain rfl:=retE h
   exact fin (ok X) 1 (.s (z5o v1) (z5p a0 v1)::bF 6 []) (pA (z6a (X:=X) k1) (pR 6 k2 pT)) (by kernel_rfl)
 ·rcases iteE h with ⟨k3,h⟩|⟨k3,h⟩
  ·obtain ⟨v2,k4,h⟩:=z07 h
   obtain rfl:=retE h
   exact fin (ok X) 6 [.b true,.s (z5q v2) (z5r v2)] (pA k3 (pA (z6b (X:=X) k4) pT)) (by kernel_rfl)
  ·obtain ⟨v3,k5,h⟩:=z07 h
   obtain ⟨v4,k6,h⟩:=z07 h
   obtain ⟨v5,k7,h⟩:=z07 h
   obtain rfl:=retE h
   exact fin (ok X) 15 [.b false,.s (z0w v3) (z0x v3),.s (z38 v4) (z39 v4),.s (z0w v5) (z0x v5)] (pA k3 (pA (z0z (X:=X) k5) (pA (ih_parse_reader_stmts _ _ k6) (pA (z0z (X:=X) k7) pT)))) (by kernel_rfl)
theorem zl8 {n:Nat} (ih_parse_reader_stmts:∀ (a0:z00) (r:(z00 × (List z05))),z1b n a0=some r→Cs Tryz.prog (GX X) 89 [xP 0 0] [oB 138 (bs (z03 a0))] (z38 r) (z39 r)) (ih_parse_reader_stmt:∀ (a0:z00) (r:(z00 × z05 × Bool)),z0y n a0=some r→Cs Tryz.prog (GX X) 132 [xP 0 0] [oB 138 (bs (z03 a0))] (z4q r) (z4r r)) (ih_parse_reader_conditional:∀ (a0:z00) (r:(z00 × z05)),z15 n a0=some r→Cs Tryz.prog (GX X) 154 [xP 0 0] [oB 138 (bs (z03 a0))] (z2x r) (z2y r)) (ih_parse_reader_loop:∀ (a0:z00) (r:(z00 × z05)),z2d n a0=some r→Cs Tryz.prog (GX X) 155 [xP 0 0] [oB 138 (bs (z03 a0))] (z4s r) (z4t r)) (ih_parse_reader_recv:∀ (a0:z00) (r:(z00 × z05)),z26 n a0=some r→Cs Tryz.prog (GX X) 157 [xP 0 0] [oB 138 (bs (z03 a0))] (z4h r) (z4i r)) (ih_parse_reader_block:∀ (a0:z00) (r:(z00 × (List z05))),z0t n a0=some r→Cs Tryz.prog (GX X) 178 [xP 0 0] [oB 138 (bs (z03 a0))] (z3a r) (z3b r)) (ih_parse_reader_arm:∀ (a0:z00) (r:(z00 × z1r)),z1i n a0=some r→Cs Tryz.prog (GX X) 180 [xP 0 0] [oB 138 (bs (z03 a0))] (z4o r) (z4p r)) (a0:z00) (r:(z00 × z1r)) (h:z1i (n+1) a0=some r):Cs Tryz.prog (GX X) 180 [xP 0 0] [oB 138 (bs (z03 a0))] (z4o r) (z4p r):=by
 refine fnT (cx:=cx X) Tryz.f180 Tryz.call180 Tryz.func180 (by kernel_rfl) ?_
 rw [z1i] at h
 obtain ⟨v1,k1,h⟩:=z07 h
 obtain ⟨v2,k2,h⟩:=z07 h
 obtain ⟨v3,k3,h⟩:=z07 h
 obtain ⟨v4,k4,h⟩:=z07 h
 obtain ⟨v5,k5,h⟩:=z07 h
 obtain rfl:=retE h
 exact fin (ok X) 15 [.s (z2a v1) (z2b v1),.s (z0w v2) (z0x v2),.s (z2a v3) (z2b v3),.s (z0w v4) (z0x v4),.s (z3a v5) (z3b v5)] (pA (z2i (X:=X) k1) (pA (z0z (X:=X) k2) (pA (z2i (X:=X) k3) (pA (z0z (X:=X) k4) (pA (ih_parse_reader_block _ _ k5) pT))))) (by kernel_rfl)
theorem zcv:∀ n:Nat,(∀ (a0:z00) (r:(z00 × (List z05))),z1b n a0=some r→Cs Tryz.prog (GX X) 89 [xP 0 0] [oB 138 (bs (z03 a0))] (z38 r) (z39 r))∧(∀ (a0:z00) (r:(z00 × z05 × Bool)),z0y n a0=some r→Cs Tryz.prog (GX X) 132 [xP 0 0] [oB 138 (bs (z03 a0))] (z4q r) (z4r r))∧(∀ (a0:z00) (r:(z00 × z05)),z15 n a0=some r→Cs Tryz.prog (GX X) 154 [xP 0 0] [oB 138 (bs (z03 a0))] (z2x r) (z2y r))∧(∀ (a0:z00) (r:(z00 × z05)),z2d n a0=some r→Cs Tryz.prog (GX X) 155 [xP 0 0] [oB 138 (bs (z03 a0))] (z4s r) (z4t r))∧(∀ (a0:z00) (r:(z00 × z05)),z26 n a0=some r→Cs Tryz.prog (GX X) 157 [xP 0 0] [oB 138 (bs (z03 a0))] (z4h r) (z4i r))∧(∀ (a0:z00) (r:(z00 × (List z05))),z0t n a0=some r→Cs Tryz.prog (GX X) 178 [xP 0 0] [oB 138 (bs (z03 a0))] (z3a r) (z3b r))∧(∀ (a0:z00) (r:(z00 × z1r)),z1i n a0=some r→Cs Tryz.prog (GX X) 180 [xP 0 0] [oB 138 (bs (z03 a0))] (z4o r) (z4p r))
 | 0=>⟨(fun _ _ h=>by rw [z1b] at h;cases h),(fun _ _ h=>by rw [z0y] at h;cases h),(fun _ _ h=>by rw [z15] at h;cases h),(fun _ _ h=>by rw [z2d] at h;cases h),(fun _ _ h=>by rw [z26] at h;cases h),(fun _ _ h=>by rw [z0t] at h;cases h),(fun _ _ h=>by rw [z1i] at h;cases h)⟩
 | n+1=>by
  have ih:=zcv n
  exact ⟨zit ih.1 ih.2.1 ih.2.2.1 ih.2.2.2.1 ih.2.2.2.2.1 ih.2.2.2.2.2.1 ih.2.2.2.2.2.2,zk0 ih.1 ih.2.1 ih.2.2.1 ih.2.2.2.1 ih.2.2.2.2.1 ih.2.2.2.2.2.1 ih.2.2.2.2.2.2,zf6 ih.1 ih.2.1 ih.2.2.1 ih.2.2.2.1 ih.2.2.2.2.1 ih.2.2.2.2.2.1 ih.2.2.2.2.2.2,zk1 ih.1 ih.2.1 ih.2.2.1 ih.2.2.2.1 ih.2.2.2.2.1 ih.2.2.2.2.2.1 ih.2.2.2.2.2.2,zk2 ih.1 ih.2.1 ih.2.2.1 ih.2.2.2.1 ih.2.2.2.2.1 ih.2.2.2.2.2.1 ih.2.2.2.2.2.2,ziu ih.1 ih.2.1 ih.2.2.1 ih.2.2.2.1 ih.2.2.2.2.1 ih.2.2.2.2.2.1 ih.2.2.2.2.2.2,zl8 ih.1 ih.2.1 ih.2.2.1 ih.2.2.2.1 ih.2.2.2.2.1 ih.2.2.2.2.2.1 ih.2.2.2.2.2.2⟩
theorem ziv {a0:z00} {r:(z00 × (List z05))} (h:z7s a0=some r):Cs Tryz.prog (GX X) 89 [xP 0 0] [oB 138 (bs (z03 a0))] (z38 r) (z39 r):=by
 obtain ⟨n,hn⟩:=unfE h
 exact (zcv n).1 _ _ hn
theorem zk3 {a0:z00} {r:(z00 × z3k)} (h:z86 a0=some r):Cs Tryz.prog (GX X) 45 [xP 0 0] [oB 138 (bs (z03 a0))] (zbx r) (zby r):=by
 refine fnT (cx:=cx X) Tryz.f45 Tryz.call45 Tryz.func45 (by kernel_rfl) ?_
 unfold z86 at h
 obtain ⟨v1,k1,h⟩:=z07 h
 obtain ⟨v2,k2,h⟩:=z07 h
 refine adv (ok X) 7 [.s (z2a v1) (z2b v1),.s (z0w v2) (z0x v2)] (pA (z2i (X:=X) k1) (pA (z0z (X:=X) k2) pT)) (by kernel_rfl) ?_
 refine lp (ok X) (z41) (fun (x1:((List z0n) × Int × Int × Int × Int × Int × (List ByteArray)))=>⟨26,1,[(0,[xP 0 0]),(2,[xP 1 0]),(3,[xP 2 0])],[oB 138 (bs (z03 (z00.mk x1.1 x1.2.1 x1.2.2.1 x1.2.2.2.1 x1.2.2.2.2.1 x1.2.2.2.2.2.1))),oB 124 [.pv (.str (ByteArray.mk #[])),.emp,.emp],oB 124 [.pv (.str v1.2),.row 3,.emp],oR true 9 1 (List.map z09 x1.2.2.2.2.2.2)]⟩) (fun (j1:((List z0n) × Int × Int × Int × Int × Int × (List ByteArray)))=>⟨26,1,[(0,[xP 0 0]),(2,[xP 1 0]),(3,[xP 2 0])],[oB 138 (bs (z03 (z00.mk j1.1 j1.2.1 j1.2.2.1 j1.2.2.2.1 j1.2.2.2.2.1 j1.2.2.2.2.2.1))),oB 124 [.pv (.str (ByteArray.mk #[])),.emp,.emp],oB 124 [.pv (.str v1.2),.row 3,.emp],oR true 9 1 (List.map z09 j1.2.2.2.2.2.2)]⟩) zjp (v2.f_l,v2.f_end,v2.f_e,v2.f_at,v2.f_deep,v2.f_in,[]) (fun _=>⟨_,_,_,_,rfl⟩) h (by kernel_rfl) (fun x1 o h=>?_) (fun r' h=>?_) (fun j1 h=>?_)
 ·unfold z41 at h
  obtain ⟨v3,k3,h⟩:=z07 h
  refine adv (ok X) 3 [.s (z2s v3) (z2t v3)] (pA (z32 (X:=X) k3) pT) (by kernel_rfl) ?_
  rcases iteE h with ⟨k4,h⟩|⟨k4,h⟩
  ·obtain ⟨v4,k5,h⟩:=z07 h
   obtain ⟨v5,k6,h⟩:=z07 h
   obtain ⟨v6,k7,h⟩:=z07 h
   obtain rfl:=retE h
   exact fin (ok X) 7 [.b true,.o [0,1,2,3,4,5,6,7],.s (z2a v4) (z2b v4),.l (List.map z09 v5),.s (z0w v6) (z0x v6)] (pA k4 (pA (z2i (X:=X) k5) (pA (apm (L:=x1.2.2.2.2.2.2) (M:=[v4.2]) zcq k6) (pA (z0z (X:=X) k7) pT)))) (by kernel_rfl)
  ·obtain rfl:=retE h
   exact fin (ok X) 2 [.b false] (pA k4 pT) (by kernel_rfl)
 ·cases h
 ·obtain ⟨v7,k8,h⟩:=z07 h
  obtain ⟨v8,k9,h⟩:=z07 h
  obtain rfl:=retE h
  exact fin (ok X) 7 [.s (z38 v7) (z39 v7),.s (z0w v8) (z0x v8)] (pA (ziv (X:=X) k8) (pA (z0z (X:=X) k9) pT)) (by kernel_rfl)
theorem zpy {a0:ByteArray} {r:(z17 × Int × Int)} (h:zak a0=some r):Cv Tryz.prog (GX X) 17 [xS a0] (ze7 r):=by
 refine Cs.toV (?_:Cs Tryz.prog (GX X) 17 [xS a0] [] (ze7 r) (zko r)) (by kernel_rfl)
 refine fnT (cx:=cx X) Tryz.f17 Tryz.call17 Tryz.func17 (by kernel_rfl) ?_
 unfold zak at h
 obtain ⟨v1,k1,h⟩:=z07 h
 refine adv (ok X) 7 [.c (zht v1)] (pA (zrm (X:=X) k1) pT) (by kernel_rfl) ?_
 rcases iteE h with ⟨k2,h⟩|⟨k2,h⟩
 ·obtain rfl:=retE h
  exact fin (ok X) 4 [.b true] (pA k2 pT) (by kernel_rfl)
 ·refine adv (ok X) 7 [.b false] (pA k2 pT) (by kernel_rfl) ?_
  refine lp (ok X) (z7f) (fun (x1:((List z0n) × Int × Int × Int × Int × Int × (List z29)))=>⟨76,0,[(2,[xP 0 0]),(8,[xP 1 0]),(9,[xP 2 0])],[oB 67 [.emp,.emp,.emp],oB 138 (bs (z03 (z00.mk x1.1 x1.2.1 x1.2.2.1 x1.2.2.2.1 x1.2.2.2.2.1 x1.2.2.2.2.2.1))),oB 67 [.row 3,.emp,.emp],oR true 126 6 (List.map z0c x1.2.2.2.2.2.2)]⟩) (fun (j1:((List z0n) × Int × Int × Int × Int × Int × (List z29)))=>⟨76,0,[(2,[xP 0 0]),(8,[xP 1 0]),(9,[xP 2 0])],[oB 67 [.emp,.emp,.emp],oB 138 (bs (z03 (z00.mk j1.1 j1.2.1 j1.2.2.1 j1.2.2.2.1 j1.2.2.2.2.1 j1.2.2.2.2.2.1))),oB 67 [.row 3,.emp,.emp],oR true 126 6 (List.map z0c j1.2.2.2.2.2.2)]⟩) zgz (v1.1,(a0.size:Int),0,0,0,0,[]) (fun _=>⟨_,_,_,_,rfl⟩) h (by kernel_rfl) (fun x1 o h=>?_) (fun r' h=>?_) (fun j1 h=>?_)
  ·unfold z7f at h
   obtain ⟨v2,k3,h⟩:=z07 h
   refine adv (ok X) 3 [.s (z2s v2) (z2t v2)] (pA (z32 (X:=X) k3) pT) (by kernel_rfl) ?_
   rcases iteE h with ⟨k4,h⟩|⟨k4,h⟩
   ·obtain ⟨v3,k5,h⟩:=z07 h
    obtain ⟨v4,k6,h⟩:=z07 h
    obtain rfl:=retE h
    exact fin (ok X) 5 [.b true,.o [0,1,2,3,4,5,6,7],.s (za3 v3) (za4 v3),.l (List.map z0c v4)] (pA k4 (pA (zhb (X:=X) k5) (pA (apm (L:=x1.2.2.2.2.2.2) (M:=[v3.2]) zj2 k6) pT))) (by kernel_rfl)
   ·obtain rfl:=retE h
    exact fin (ok X) 2 [.b false] (pA k4 pT) (by kernel_rfl)
  ·cases h
  ·refine adv (ok X) 1 [] pT (by kernel_rfl) ?_
   refine lp (ok X) (z7g) (fun (x2:((List z0n) × Int × Int × Int × Int × Int × (List z3e)))=>⟨76,0,[(2,[xP 0 0]),(8,[xP 1 0]),(9,[xP 2 0])],[oB 67 [.emp,.emp,.emp],oB 138 (bs (z03 (z00.mk x2.1 x2.2.1 x2.2.2.1 x2.2.2.2.1 x2.2.2.2.2.1 x2.2.2.2.2.2.1))),oB 67 [.row 3,.row 4,.emp],oR true 126 6 (List.map z0c j1.2.2.2.2.2.2),oR true 120 2 (List.map z0e x2.2.2.2.2.2.2)]⟩) (fun (j2:((List z0n) × Int × Int × Int × Int × Int × (List z3e)))=>⟨76,0,[(2,[xP 0 0]),(8,[xP 1 0]),(9,[xP 2 0])],[oB 67 [.emp,.emp,.emp],oB 138 (bs (z03 (z00.mk j2.1 j2.2.1 j2.2.2.1 j2.2.2.2.1 j2.2.2.2.2.1 j2.2.2.2.2.2.1))),oB 67 [.row 3,.row 4,.emp],oR true 126 6 (List.map z0c j1.2.2.2.2.2.2),oR true 120 2 (List.map z0e j2.2.2.2.2.2.2)]⟩) zgz (j1.1,j1.2.1,j1.2.2.1,j1.2.2.2.1,j1.2.2.2.2.1,j1.2.2.2.2.2.1,[]) (fun _=>⟨_,_,_,_,rfl⟩) h (by kernel_rfl) (fun x2 o h=>?_) (fun r' h=>?_) (fun j2 h=>?_)
   ·unfold z7g at h
    obtain ⟨v5,k7,h⟩:=z07 h
    refine adv (ok X) 3 [.s (z2s v5) (z2t v5)] (pA (z32 (X:=X) k7) pT) (by kernel_rfl) ?_
    rcases iteE h with ⟨k8,h⟩|⟨k8,h⟩
    ·obtain ⟨v6,k9,h⟩:=z07 h
     obtain ⟨v7,k10,h⟩:=z07 h
     obtain rfl:=retE h
     exact fin (ok X) 5 [.b true,.o [0,1,2,3,4,5,6,7],.s (zbv v6) (zbw v6),.l (List.map z0e v7)] (pA k8 (pA (zjw (X:=X) k9) (pA (apm (L:=x2.2.2.2.2.2.2) (M:=[v6.2]) zj4 k10) pT))) (by kernel_rfl)
    ·obtain rfl:=retE h
     exact fin (ok X) 2 [.b false] (pA k8 pT) (by kernel_rfl)
   ·cases h
   ·refine adv (ok X) 1 [] pT (by kernel_rfl) ?_
    refine lp (ok X) (z6j) (fun (x3:((List z0n) × Int × Int × Int × Int × Int × (List z3k)))=>⟨76,0,[(2,[xP 0 0]),(8,[xP 1 0]),(9,[xP 2 0])],[oB 67 [.emp,.emp,.emp],oB 138 (bs (z03 (z00.mk x3.1 x3.2.1 x3.2.2.1 x3.2.2.2.1 x3.2.2.2.2.1 x3.2.2.2.2.2.1))),oB 67 [.row 3,.row 4,.row 5],oR true 126 6 (List.map z0c j1.2.2.2.2.2.2),oR true 120 2 (List.map z0e j2.2.2.2.2.2.2),oR true 124 3 (List.map z0d x3.2.2.2.2.2.2)]⟩) (fun (j3:((List z0n) × Int × Int × Int × Int × Int × (List z3k)))=>⟨76,0,[(2,[xP 0 0]),(8,[xP 1 0]),(9,[xP 2 0])],[oB 67 [.emp,.emp,.emp],oB 138 (bs (z03 (z00.mk j3.1 j3.2.1 j3.2.2.1 j3.2.2.2.1 j3.2.2.2.2.1 j3.2.2.2.2.2.1))),oB 67 [.row 3,.row 4,.row 5],oR true 126 6 (List.map z0c j1.2.2.2.2.2.2),oR true 120 2 (List.map z0e j2.2.2.2.2.2.2),oR true 124 3 (List.map z0d j3.2.2.2.2.2.2)]⟩) zgz (j2.1,j2.2.1,j2.2.2.1,j2.2.2.2.1,j2.2.2.2.2.1,j2.2.2.2.2.2.1,[]) (fun _=>⟨_,_,_,_,rfl⟩) h (by kernel_rfl) (fun x3 o h=>?_) (fun r' h=>?_) (fun j3 h=>?_)
    ·unfold z6j at h
     obtain ⟨v8,k11,h⟩:=z07 h
     refine adv (ok X) 3 [.s (z2s v8) (z2t v8)] (pA (z32 (X:=X) k11) pT) (by kernel_rfl) ?_
     rcases iteE h with ⟨k12,h⟩|⟨k12,h⟩
     ·obtain ⟨v9,k13,h⟩:=z07 h
      obtain ⟨v10,k14,h⟩:=z07 h
      obtain rfl:=retE h
      exact fin (ok X) 5 [.b true,.o [0,1,2,3,4,5,6,7],.s (zbx v9) (zby v9),.l (List.map z0d v10)] (pA k12 (pA (zk3 (X:=X) k13) (pA (apm (L:=x3.2.2.2.2.2.2) (M:=[v9.2]) zj5 k14) pT))) (by kernel_rfl)
     ·obtain rfl:=retE h
      exact fin (ok X) 2 [.b false] (pA k12 pT) (by kernel_rfl)
    ·cases h
    ·refine adv (ok X) 3 [.i (j3.1.length:Int)] (pA (lm z1p j3.1) pT) (by kernel_rfl) ?_
     rcases iteE h with ⟨k15,h⟩|⟨k15,h⟩
     ·obtain ⟨v11,k16,h⟩:=z07 h
      refine adv (ok X) 5 [.b true,.s (z5q v11) (z5r v11)] (pA k15 (pA (z6b (X:=X) k16) pT)) (by kernel_rfl) ?_
      rcases iteE h with ⟨k17,h⟩|⟨k17,h⟩
      ·obtain rfl:=retE h
       exact fin (ok X) 4 [.b true,.o [0,1,2,3,4,5,6,7,8,9,10,11]] (pA k17 pT) (by kernel_rfl)
      ·obtain rfl:=retE h
       exact fin (ok X) 5 [.b false] (pA k17 pT) (by kernel_rfl)
     ·refine adv (ok X) 5 [.b false] (pA k15 pT) (by kernel_rfl) ?_
      rcases iteE h with ⟨k18,h⟩|⟨k18,h⟩
      ·obtain rfl:=retE h
       exact fin (ok X) 4 [.b true,.o [0,1,2,3,4,5,6,7,8,9,10,11]] (pA k18 pT) (by kernel_rfl)
      ·obtain rfl:=retE h
       exact fin (ok X) 5 [.b false] (pA k18 pT) (by kernel_rfl)
theorem z1d {a0:Int} {a1:Int} {a2:Int} {r:Bool} (h:z3p a0 a1 a2=some r):Cv Tryz.prog (GX X) 27 [xI a0,xI a1,xI a2] (z16 r):=by
 refine Cs.toV (?_:Cs Tryz.prog (GX X) 27 [xI a0,xI a1,xI a2] [] (z16 r) (zof r)) (by kernel_rfl)
 refine fnT (cx:=cx X) Tryz.f27 Tryz.call27 Tryz.func27 (by kernel_rfl) ?_
 unfold z3p at h
 rcases iteE h with ⟨k1,h⟩|⟨k1,h⟩
 ·obtain rfl:=retE h
  exact fin (ok X) 5 (bT 4 []) (pR 4 k1 pT) (by kernel_rfl)
 ·obtain rfl:=retE h
  exact fin (ok X) 5 (bF 4 []) (pR 4 k1 pT) (by kernel_rfl)
theorem zpz {a0:z0a} {r:Bool} (h:zd6 a0=some r):Cv Tryz.prog (GX X) 65 [.agg (bs (z0m a0))] (ze8 r):=by
 refine Cs.toV (?_:Cs Tryz.prog (GX X) 65 [.agg (bs (z0m a0))] [] (ze8 r) (zkp r)) (by kernel_rfl)
 refine fnT (cx:=cx X) Tryz.f65 Tryz.call65 Tryz.func65 (by kernel_rfl) ?_
 unfold zd6 at h
 refine adv (ok X) 7 [.i (a0.Rule.length:Int)] (pA (lm zcu a0.Rule) pT) (by kernel_rfl) ?_
 refine lp (ok X) (zg1 a0) (fun (x1:(Int × Int))=>⟨60,0,[(1,[xP 0 0]),(3,[xI x1.1]),(9,[xL (List.map zcu a0.Rule)]),(10,[xI (a0.Rule.length:Int)]),(11,[xI x1.2])],[oB 69 (bs (z0m a0))]⟩) (fun (j1:Int)=>⟨60,0,[(1,[xP 0 0]),(3,[xI j1])],[oB 69 (bs (z0m a0))]⟩) zh0 (0,0) (fun _=>⟨_,_,_,_,rfl⟩) h (by kernel_rfl) (fun x1 o h=>?_) (fun r' h=>?_) (fun j1 h=>?_)
 ·unfold zg1 at h
  rcases iteE h with ⟨k1,h⟩|⟨k1,h⟩
  ·obtain ⟨v1,k2,h⟩:=z07 h
   refine adv (ok X) 12 [.b true,.e [.sl (List.map z71 v1)],.i (v1.length:Int)] (pA k1 (pA (ixm zcu k2) (pA (lm z71 v1) pT))) (by kernel_rfl) ?_
   rcases iteE h with ⟨k3,h⟩|⟨k3,h⟩
   ·obtain rfl:=retE h
    exact fin (ok X) 4 [.b true] (pA k3 pT) (by kernel_rfl)
   ·refine adv (ok X) 4 [.b false,.i (v1.length:Int)] (pA k3 (pA (lm z71 v1) pT)) (by kernel_rfl) ?_
    refine lp (ok X) (zg0 a0 v1 x1) (fun (x2:(Int × Int))=>⟨60,0,[(1,[xP 0 0]),(3,[xI x2.1]),(4,[xI x1.2]),(9,[xL (List.map zcu a0.Rule)]),(10,[xI (a0.Rule.length:Int)]),(11,[xI x1.2]),(21,[xL (List.map z71 v1)]),(22,[xI (v1.length:Int)]),(23,[xI x2.2])],[oB 69 (bs (z0m a0))]⟩) (fun (j2:Int)=>⟨60,0,[(1,[xP 0 0]),(3,[xI j2]),(9,[xL (List.map zcu a0.Rule)]),(10,[xI (a0.Rule.length:Int)]),(11,[xI x1.2])],[oB 69 (bs (z0m a0))]⟩) zh0 (x1.1,0) (fun _=>⟨_,_,_,_,rfl⟩) h (by kernel_rfl) (fun x2 o h=>?_) (fun r' h=>?_) (fun j2 h=>?_)
    ·unfold zg0 at h
     rcases iteE h with ⟨k4,h⟩|⟨k4,h⟩
     ·refine adv (ok X) 6 [.b true] (pA k4 pT) (by kernel_rfl) ?_
      refine jr (ok X) 1 (fun (j3:Int)=>⟨60,0,[(1,[xP 0 0]),(3,[xI j3]),(4,[xI x1.2]),(9,[xL (List.map zcu a0.Rule)]),(10,[xI (a0.Rule.length:Int)]),(11,[xI x1.2]),(21,[xL (List.map z71 v1)]),(22,[xI (v1.length:Int)]),(23,[xI x2.2])],[oB 69 (bs (z0m a0))]⟩) zh0 (fun _=>⟨_,_,_,_,rfl⟩) h (fun o h=>?_) (fun r' h=>?_) (fun j3 h=>?_)
      ·obtain ⟨v2,k5,h⟩:=z07 h
       obtain ⟨v3,k6,h⟩:=z07 h
       refine adv (ok X) 6 [.e [.int .i64 v2],.i (a0.Rule.length:Int),.c (z16 v3)] (pA (ixm z71 k5) (pA (lm zcu a0.Rule) (pA (z1d (X:=X) k6) pT))) (by kernel_rfl) ?_
       rcases iteE h with ⟨k7,h⟩|⟨k7,h⟩
       ·obtain rfl:=retE h
        exact fin (ok X) 4 [.b true] (pA k7 pT) (by kernel_rfl)
       ·refine adv (ok X) 4 [.b false] (pA k7 pT) (by kernel_rfl) ?_
        rcases iteE h with ⟨k8,h⟩|⟨k8,h⟩
        ·obtain rfl:=retE h
         exact fin (ok X) 3 [.b true] (pA k8 pT) (by kernel_rfl)
        ·obtain rfl:=retE h
         exact fin (ok X) 3 [.b false] (pA k8 pT) (by kernel_rfl)
      ·obtain rfl:=retE h
       kernel_rfl
      ·obtain rfl:=retE h
       exact fin (ok X) 1 [] pT (by kernel_rfl)
     ·obtain rfl:=retE h
      exact fin (ok X) 5 [.b false] (pA k4 pT) (by kernel_rfl)
    ·obtain rfl:=retE h
     kernel_rfl
    ·obtain rfl:=retE h
     exact fin (ok X) 2 [] pT (by kernel_rfl)
  ·obtain rfl:=retE h
   exact fin (ok X) 5 [.b false] (pA k1 pT) (by kernel_rfl)
 ·obtain rfl:=retE h
  kernel_rfl
 ·rcases iteE h with ⟨k9,h⟩|⟨k9,h⟩
  ·obtain rfl:=retE h
   exact fin (ok X) 3 (.i (a0.Rule.length:Int)::bT 9 []) (pA (lm zcu a0.Rule) (pR 9 k9 pT)) (by kernel_rfl)
  ·rcases iteE h with ⟨k10,h⟩|⟨k10,h⟩
   ·obtain rfl:=retE h
    exact fin (ok X) 3 (.i (a0.Rule.length:Int)::bF 4 (.i (a0.Rule.length:Int)::bF 3 (bT 3 [.i (a0.Rule.length:Int),.b true,.b false,.b true,.b false]))) (pA (lm zcu a0.Rule) (pR 4 k9 (pA (lm zcu a0.Rule) (pR 3 k9 (pR 3 k10 (pA (lm zcu a0.Rule) (pA k10 (pA k9 (pA k10 (pA k9 pT)))))))))) (by kernel_rfl)
   ·obtain rfl:=retE h
    exact fin (ok X) 3 (.i (a0.Rule.length:Int)::bF 4 (.i (a0.Rule.length:Int)::bF 10 [])) (pA (lm zcu a0.Rule) (pR 4 k9 (pA (lm zcu a0.Rule) (pR 3 k9 (pR 4 k10 (pA k9 (pA k10 (pA k9 pT)))))))) (by kernel_rfl)
theorem zo1 {a0:z0a} {a1:Int} {r:Bool} (h:zb1 a0 a1=some r):Cv Tryz.prog (GX X) 28 [.agg (bs (z0m a0)),xI a1] (zeu r):=by
 refine Cs.toV (?_:Cs Tryz.prog (GX X) 28 [.agg (bs (z0m a0)),xI a1] [] (zeu r) (zny r)) (by kernel_rfl)
 refine fnT (cx:=cx X) Tryz.f28 Tryz.call28 Tryz.func28 (by kernel_rfl) ?_
 unfold zb1 at h
 refine adv (ok X) 3 [] pT (by kernel_rfl) ?_
 refine jn (ok X) 1 (fun (j1:Bool)=>⟨45,0,[(1,[xI a1]),(2,[xP 0 0]),(5,[xB j1])],[oB 69 (bs (z0m a0))]⟩) h (fun j1 h=>?_) (fun j1 h=>?_)
 ·obtain ⟨v1,k1,h⟩:=z07 h
  rcases iteE h with ⟨k2,h⟩|⟨k2,h⟩
  ·obtain ⟨v2,k3,h⟩:=z07 h
   rcases iteE h with ⟨k4,h⟩|⟨k4,h⟩
   ·obtain ⟨v3,k5,h⟩:=z07 h
    obtain rfl:=retE h
    exact fin (ok X) 1 (.c (z16 v1)::bT 3 (.c (z16 v2)::bT 4 [.c (z16 v3),.b true])) (pA (z1d (X:=X) k1) (pR 3 k2 (pA (z1d (X:=X) k3) (pA k2 (pR 3 k4 (pA (z1d (X:=X) k5) (pA k4 pT))))))) (by kernel_rfl)
   ·obtain rfl:=retE h
    exact fin (ok X) 1 (.c (z16 v1)::bT 3 (.c (z16 v2)::.b true::bF 4 [])) (pA (z1d (X:=X) k1) (pR 3 k2 (pA (z1d (X:=X) k3) (pA k2 (pR 4 k4 pT))))) (by kernel_rfl)
  ·obtain rfl:=retE h
   exact fin (ok X) 1 (.c (z16 v1)::bF 8 []) (pA (z1d (X:=X) k1) (pR 4 k2 (pR 4 ff pT))) (by kernel_rfl)
 ·refine adv (ok X) 1 [] pT (by kernel_rfl) ?_
  refine jn (ok X) 1 (fun (j2:Bool)=>⟨45,0,[(4,[xB j2])],[]⟩) h (fun j2 h=>?_) (fun j2 h=>?_)
  ·rcases iteE h with ⟨k6,h⟩|⟨k6,h⟩
   ·obtain ⟨v4,k7,h⟩:=z07 h
    rcases iteE h with ⟨k8,h⟩|⟨k8,h⟩
    ·obtain ⟨v5,k9,h⟩:=z07 h
     rcases iteE h with ⟨k10,h⟩|⟨k10,h⟩
     ·rcases iteE h with ⟨k11,h⟩|⟨k11,h⟩
      ·obtain ⟨v6,k12,h⟩:=z07 h
       obtain rfl:=retE h
       exact fin (ok X) 1 (bT 5 (.c (z16 v4)::bT 6 (.c (z16 v5)::bT 9 [.c (ze8 v6),.b true]))) (pR 5 k6 (pA (z1d (X:=X) k7) (pA k6 (pR 5 k8 (pA (z1d (X:=X) k9) (pA k8 (pR 6 k10 (pA k11 (pA k11 (pA (zpz (X:=X) k12) (pA k11 pT))))))))))) (by kernel_rfl)
      ·obtain rfl:=retE h
       exact fin (ok X) 1 (bT 5 (.c (z16 v4)::bT 6 (.c (z16 v5)::bT 7 (bF 3 [])))) (pR 5 k6 (pA (z1d (X:=X) k7) (pA k6 (pR 5 k8 (pA (z1d (X:=X) k9) (pA k8 (pR 6 k10 (pR 3 k11 pT)))))))) (by kernel_rfl)
     ·obtain rfl:=retE h
      exact fin (ok X) 1 (bT 5 (.c (z16 v4)::bT 6 (.c (z16 v5)::.b true::bF 9 []))) (pR 5 k6 (pA (z1d (X:=X) k7) (pA k6 (pR 5 k8 (pA (z1d (X:=X) k9) (pA k8 (pR 6 k10 (pR 3 ff pT)))))))) (by kernel_rfl)
    ·obtain rfl:=retE h
     exact fin (ok X) 1 (bT 5 (.c (z16 v4)::.b true::bF 15 [])) (pR 5 k6 (pA (z1d (X:=X) k7) (pA k6 (pR 6 k8 (pR 9 ff pT))))) (by kernel_rfl)
   ·obtain rfl:=retE h
    exact fin (ok X) 1 (bF 21 []) (pR 6 k6 (pR 15 ff pT)) (by kernel_rfl)
  ·obtain rfl:=retE h
   exact fin (ok X) 1 [] pT (by kernel_rfl)
theorem zfo {a0:z0v} {r:Bool} (h:zgh a0=some r):Cv Tryz.prog (GX X) 99 [.agg (bs (z6v a0))] (zc9 r):=by
 refine Cs.toV (?_:Cs Tryz.prog (GX X) 99 [.agg (bs (z6v a0))] [] (zc9 r) (zre r)) (by kernel_rfl)
 refine fnT (cx:=cx X) Tryz.f99 Tryz.call99 Tryz.func99 (by kernel_rfl) ?_
 unfold zgh at h
 rcases iteE h with ⟨k1,h⟩|⟨k1,h⟩
 ·rcases iteE h with ⟨k2,h⟩|⟨k2,h⟩
  ·rcases iteE h with ⟨k3,h⟩|⟨k3,h⟩
   ·obtain rfl:=retE h
    exact fin (ok X) 5 (bT 11 [.i (a0.Kids.length:Int),.b true,.b true]) (pR 4 k1 (pR 4 k2 (pR 3 k3 (pA (lm z1m a0.Kids) (pA k3 (pA k3 pT)))))) (by kernel_rfl)
   ·obtain rfl:=retE h
    exact fin (ok X) 5 (bT 8 (bF 5 [])) (pR 4 k1 (pR 4 k2 (pR 5 k3 pT))) (by kernel_rfl)
  ·obtain rfl:=retE h
   exact fin (ok X) 5 (bT 4 (bF 9 [])) (pR 4 k1 (pR 4 k2 (pR 5 ff pT))) (by kernel_rfl)
 ·obtain rfl:=retE h
  exact fin (ok X) 5 (bF 13 []) (pR 4 k1 (pR 9 ff pT)) (by kernel_rfl)
theorem zok {a0:z5w} {r:Bool} (h:zhz a0=some r):Cv Tryz.prog (GX X) 100 [.agg (bs (zdg a0))] (zg2 r):=by
 refine Cs.toV (?_:Cs Tryz.prog (GX X) 100 [.agg (bs (zdg a0))] [] (zg2 r) (zog r)) (by kernel_rfl)
 refine fnT (cx:=cx X) Tryz.f100 Tryz.call100 Tryz.func100 (by kernel_rfl) ?_
 unfold zhz at h
 rcases iteE h with ⟨k1,h⟩|⟨k1,h⟩
 ·obtain ⟨v1,k2,h⟩:=z07 h
  rcases iteE h with ⟨k3,h⟩|⟨k3,h⟩
  ·obtain ⟨v2,k4,h⟩:=z07 h
   obtain rfl:=retE h
   exact fin (ok X) 5 (bT 3 (.c (zc9 v1)::bT 4 [.c (zc9 v2),.b true])) (pR 3 k1 (pA (zfo (X:=X) k2) (pA k1 (pR 3 k3 (pA (zfo (X:=X) k4) (pA k3 pT)))))) (by kernel_rfl)
  ·obtain rfl:=retE h
   exact fin (ok X) 5 (bT 3 (.c (zc9 v1)::.b true::bF 4 [])) (pR 3 k1 (pA (zfo (X:=X) k2) (pA k1 (pR 4 k3 pT)))) (by kernel_rfl)
 ·obtain rfl:=retE h
  exact fin (ok X) 5 (bF 8 []) (pR 4 k1 (pR 4 ff pT)) (by kernel_rfl)
theorem zrp {a0:Int} {r:Int} (h:zm1 a0=some r):Cv Tryz.prog (GX X) 138 [xI a0] (zi0 r):=by
 refine Cs.toV (?_:Cs Tryz.prog (GX X) 138 [xI a0] [] (zi0 r) (zrf r)) (by kernel_rfl)
 refine fnT (cx:=cx X) Tryz.f138 Tryz.call138 Tryz.func138 (by kernel_rfl) ?_
 unfold zm1 at h
 refine adv (ok X) 5 [] pT (by kernel_rfl) ?_
 refine jn (ok X) 1 (fun (j1:Bool)=>⟨16,0,[(0,[xI a0]),(3,[xB j1])],[]⟩) h (fun j1 h=>?_) (fun j1 h=>?_)
 ·rcases iteE h with ⟨k1,h⟩|⟨k1,h⟩
  ·obtain rfl:=retE h
   exact fin (ok X) 1 (bT 3 []) (pR 3 k1 pT) (by kernel_rfl)
  ·obtain rfl:=retE h
   exact fin (ok X) 1 (bF 3 []) (pR 3 k1 pT) (by kernel_rfl)
 ·rcases iteE h with ⟨k2,h⟩|⟨k2,h⟩
  ·obtain rfl:=retE h
   exact fin (ok X) 4 [.b true] (pA k2 pT) (by kernel_rfl)
  ·refine adv (ok X) 3 [.b false] (pA k2 pT) (by kernel_rfl) ?_
   rcases iteE h with ⟨k3,h⟩|⟨k3,h⟩
   ·obtain rfl:=retE h
    exact fin (ok X) 4 [.b true] (pA k3 pT) (by kernel_rfl)
   ·obtain ⟨v1,k4,h⟩:=z07 h
    refine adv (ok X) 3 [.b false,.c (z16 v1)] (pA k3 (pA (z1d (X:=X) k4) pT)) (by kernel_rfl) ?_
    rcases iteE h with ⟨k5,h⟩|⟨k5,h⟩
    ·obtain rfl:=retE h
     exact fin (ok X) 4 [.b true] (pA k5 pT) (by kernel_rfl)
    ·obtain rfl:=retE h
     exact fin (ok X) 6 [.b false] (pA k5 pT) (by kernel_rfl)
theorem zrq {n:Nat} (ih_check_expr:∀ (a0:z0v) (a1:Int) (r:Bool),z92 n a0 a1=some r→Cv Tryz.prog (GX X) 101 [.agg (bs (z6v a0)),xI a1] (z6w r)) (a0:z0v) (a1:Int) (r:Bool) (h:z92 (n+1) a0 a1=some r):Cv Tryz.prog (GX X) 101 [.agg (bs (z6v a0)),xI a1] (z6w r):=by
 refine Cs.toV (?_:Cs Tryz.prog (GX X) 101 [.agg (bs (z6v a0)),xI a1] [] (z6w r) (zmn r)) (by kernel_rfl)
 refine fnT (cx:=cx X) Tryz.f101 Tryz.call101 Tryz.func101 (by kernel_rfl) ?_
 rw [z92] at h
 obtain ⟨v1,k1,h⟩:=z07 h
 refine adv (ok X) 5 [.o [0,1,2,3,4,5,6],.i (a0.Kids.length:Int),.c (zi0 v1)] (pA (lm z1m a0.Kids) (pA (zrp (X:=X) k1) pT)) (by kernel_rfl) ?_
 rcases iteE h with ⟨k2,h⟩|⟨k2,h⟩
 ·obtain rfl:=retE h
  exact fin (ok X) 4 [.b true] (pA k2 pT) (by kernel_rfl)
 ·refine adv (ok X) 4 [.b false] (pA k2 pT) (by kernel_rfl) ?_
  refine jn (ok X) 1 (fun (j1:Bool)=>⟨60,0,[(1,[xI a1]),(2,[xP 0 0]),(44,[xB j1])],[oB 183 (bs (z6v a0))]⟩) h (fun j1 h=>?_) (fun j1 h=>?_)
  ·rcases iteE h with ⟨k3,h⟩|⟨k3,h⟩
   ·rcases iteE h with ⟨k4,h⟩|⟨k4,h⟩
    ·obtain rfl:=retE h
     exact fin (ok X) 1 (bT 16 []) (pR 4 k3 (pR 6 k4 (pR 6 tt pT))) (by kernel_rfl)
    ·rcases iteE h with ⟨k5,h⟩|⟨k5,h⟩
     ·rcases iteE h with ⟨k6,h⟩|⟨k6,h⟩
      ·obtain rfl:=retE h
       exact fin (ok X) 1 (bT 4 (bF 4 (bT 3 (.b false::.b true::.b false::bT 6 [])))) (pR 4 k3 (pR 4 k4 (pR 3 k5 (pA k4 (pA k5 (pA k4 (pR 6 k6 pT))))))) (by kernel_rfl)
      ·rcases iteE h with ⟨k7,h⟩|⟨k7,h⟩
       ·obtain ⟨v2,k8,h⟩:=z07 h
        obtain rfl:=retE h
        exact fin (ok X) 1 (bT 4 (bF 4 (bT 3 (.b false::.b true::bF 5 (bT 5 [.c (z16 v2),.b true,.b false,.b true,.b false]))))) (pR 4 k3 (pR 4 k4 (pR 3 k5 (pA k4 (pA k5 (pA k4 (pR 4 k6 (pR 5 k7 (pA (z1d (X:=X) k8) (pA k7 (pA k6 (pA k7 (pA k6 pT))))))))))))) (by kernel_rfl)
       ·obtain rfl:=retE h
        exact fin (ok X) 1 (bT 4 (bF 4 (bT 3 (.b false::.b true::bF 14 [])))) (pR 4 k3 (pR 4 k4 (pR 3 k5 (pA k4 (pA k5 (pA k4 (pR 4 k6 (pR 6 k7 (pA k6 (pA k7 (pA k6 pT))))))))))) (by kernel_rfl)
     ·rcases iteE h with ⟨k9,h⟩|⟨k9,h⟩
      ·obtain ⟨v3,k10,h⟩:=z07 h
       obtain rfl:=retE h
       exact fin (ok X) 1 (bT 4 (bF 14 (bT 5 [.c (z16 v3),.b true,.b false,.b true,.b false]))) (pR 4 k3 (pR 4 k4 (pR 3 k5 (pA k4 (pA k5 (pA k4 (pR 4 ff (pR 5 k9 (pA (z1d (X:=X) k10) (pA k9 (pA ff (pA k9 (pA ff pT))))))))))))) (by kernel_rfl)
      ·obtain rfl:=retE h
       exact fin (ok X) 1 (bT 4 (bF 23 [])) (pR 4 k3 (pR 4 k4 (pR 3 k5 (pA k4 (pA k5 (pA k4 (pR 4 ff (pR 6 k9 (pA ff (pA k9 (pA ff pT))))))))))) (by kernel_rfl)
   ·rcases iteE h with ⟨k11,h⟩|⟨k11,h⟩
    ·rcases iteE h with ⟨k12,h⟩|⟨k12,h⟩
     ·obtain rfl:=retE h
      exact fin (ok X) 1 (bF 8 (bT 3 (.b false::.b true::.b false::bT 6 []))) (pR 4 k3 (pR 4 ff (pR 3 k11 (pA ff (pA k11 (pA ff (pR 6 k12 pT))))))) (by kernel_rfl)
     ·rcases iteE h with ⟨k13,h⟩|⟨k13,h⟩
      ·obtain ⟨v4,k14,h⟩:=z07 h
       obtain rfl:=retE h
       exact fin (ok X) 1 (bF 8 (bT 3 (.b false::.b true::bF 5 (bT 5 [.c (z16 v4),.b true,.b false,.b true,.b false])))) (pR 4 k3 (pR 4 ff (pR 3 k11 (pA ff (pA k11 (pA ff (pR 4 k12 (pR 5 k13 (pA (z1d (X:=X) k14) (pA k13 (pA k12 (pA k13 (pA k12 pT))))))))))))) (by kernel_rfl)
      ·obtain rfl:=retE h
       exact fin (ok X) 1 (bF 8 (bT 3 (.b false::.b true::bF 14 []))) (pR 4 k3 (pR 4 ff (pR 3 k11 (pA ff (pA k11 (pA ff (pR 4 k12 (pR 6 k13 (pA k12 (pA k13 (pA k12 pT))))))))))) (by kernel_rfl)
    ·rcases iteE h with ⟨k15,h⟩|⟨k15,h⟩
     ·obtain ⟨v5,k16,h⟩:=z07 h
      obtain rfl:=retE h
      exact fin (ok X) 1 (bF 18 (bT 5 [.c (z16 v5),.b true,.b false,.b true,.b false])) (pR 4 k3 (pR 4 ff (pR 3 k11 (pA ff (pA k11 (pR 5 ff (pR 5 k15 (pA (z1d (X:=X) k16) (pA k15 (pA ff (pA k15 (pA ff pT)))))))))))) (by kernel_rfl)
     ·obtain rfl:=retE h
      exact fin (ok X) 1 (bF 27 []) (pR 4 k3 (pR 4 ff (pR 3 k11 (pA ff (pA k11 (pR 5 ff (pR 6 k15 (pA ff (pA k15 (pA ff pT)))))))))) (by kernel_rfl)
  ·rcases iteE h with ⟨k17,h⟩|⟨k17,h⟩
   ·obtain rfl:=retE h
    exact fin (ok X) 4 [.b true] (pA k17 pT) (by kernel_rfl)
   ·refine adv (ok X) 5 [.b false,.i (a0.Kids.length:Int)] (pA k17 (pA (lm z1m a0.Kids) pT)) (by kernel_rfl) ?_
    refine lp (ok X) (ze9 (z92 n) a0 a1) (fun (x2:Int)=>⟨60,0,[(1,[xI a1]),(2,[xP 0 0]),(46,[xL (List.map z1m a0.Kids)]),(47,[xI (a0.Kids.length:Int)]),(48,[xI x2])],[oB 183 (bs (z6v a0))]⟩) (fun (j2:Unit)=>⟨60,0,[(2,[xP 0 0])],[oB 183 (bs (z6v a0))]⟩) zrg 0 (fun _=>⟨_,_,_,_,rfl⟩) h (by kernel_rfl) (fun x2 o h=>?_) (fun r' h=>?_) (fun j2 h=>?_)
    ·unfold ze9 at h
     rcases iteE h with ⟨k18,h⟩|⟨k18,h⟩
     ·obtain ⟨v6,k19,h⟩:=z07 h
      obtain ⟨v7,k20,h⟩:=z07 h
      refine adv (ok X) 11 [.b true,.e (z6v v6),.c (z6w v7)] (pA k18 (pA (ixr zad k19) (pA (ih_check_expr _ _ _ k20) pT))) (by kernel_rfl) ?_
      rcases iteE h with ⟨k21,h⟩|⟨k21,h⟩
      ·obtain rfl:=retE h
       exact fin (ok X) 4 [.b true] (pA k21 pT) (by kernel_rfl)
      ·obtain rfl:=retE h
       exact fin (ok X) 4 [.b false] (pA k21 pT) (by kernel_rfl)
     ·obtain rfl:=retE h
      exact fin (ok X) 5 [.b false] (pA k18 pT) (by kernel_rfl)
    ·obtain rfl:=retE h
     kernel_rfl
    ·obtain ⟨v8,k22,h⟩:=z07 h
     obtain rfl:=retE h
     exact fin (ok X) 3 [.c (z16 v8)] (pA (z1d (X:=X) k22) pT) (by kernel_rfl)
theorem zj7:∀ n:Nat,(∀ (a0:z0v) (a1:Int) (r:Bool),z92 n a0 a1=some r→Cv Tryz.prog (GX X) 101 [.agg (bs (z6v a0)),xI a1] (z6w r))
 | 0=>(fun _ _ _ h=>by rw [z92] at h;cases h)
 | n+1=>by
  have ih:=zj7 n
  exact zrq ih
theorem zdr {a0:z0v} {a1:Int} {r:Bool} (h:zd7 a0 a1=some r):Cv Tryz.prog (GX X) 101 [.agg (bs (z6v a0)),xI a1] (z6w r):=by
 obtain ⟨n,hn⟩:=unfE h
 exact (zj7 n) _ _ _ hn
theorem zcb {a0:z5w} {a1:Int} {r:Bool} (h:zgi a0 a1=some r):Cv Tryz.prog (GX X) 102 [.agg (bs (zdg a0)),xI a1] (z9m r):=by
 refine Cs.toV (?_:Cs Tryz.prog (GX X) 102 [.agg (bs (zdg a0)),xI a1] [] (z9m r) (zrh r)) (by kernel_rfl)
 refine fnT (cx:=cx X) Tryz.f102 Tryz.call102 Tryz.func102 (by kernel_rfl) ?_
 unfold zgi at h
 obtain ⟨v1,k1,h⟩:=z07 h
 rcases iteE h with ⟨k2,h⟩|⟨k2,h⟩
 ·obtain ⟨v2,k3,h⟩:=z07 h
  rcases iteE h with ⟨k4,h⟩|⟨k4,h⟩
  ·obtain ⟨v3,k5,h⟩:=z07 h
   obtain rfl:=retE h
   exact fin (ok X) 5 (.c (z16 v1)::bT 4 (.c (z6w v2)::bT 5 [.c (z6w v3),.b true])) (pA (z1d (X:=X) k1) (pR 4 k2 (pA (zdr (X:=X) k3) (pA k2 (pR 4 k4 (pA (zdr (X:=X) k5) (pA k4 pT))))))) (by kernel_rfl)
  ·obtain rfl:=retE h
   exact fin (ok X) 5 (.c (z16 v1)::bT 4 (.c (z6w v2)::.b true::bF 5 [])) (pA (z1d (X:=X) k1) (pR 4 k2 (pA (zdr (X:=X) k3) (pA k2 (pR 5 k4 pT))))) (by kernel_rfl)
 ·obtain rfl:=retE h
  exact fin (ok X) 5 (.c (z16 v1)::bF 10 []) (pA (z1d (X:=X) k1) (pR 5 k2 (pR 5 ff pT))) (by kernel_rfl)
theorem zol {a0:z0a} {r:Int} (h:zi1 a0=some r):Cv Tryz.prog (GX X) 104 [.agg (bs (z0m a0))] (zg3 r):=by
 refine Cs.toV (?_:Cs Tryz.prog (GX X) 104 [.agg (bs (z0m a0))] [] (zg3 r) (zoh r)) (by kernel_rfl)
 refine fnT (cx:=cx X) Tryz.f104 Tryz.call104 Tryz.func104 (by kernel_rfl) ?_
 unfold zi1 at h
 obtain rfl:=retE h
 exact fin (ok X) 5 [] pT (by kernel_rfl)
theorem z7w {a0:z1q} {a1:Int} {r:Bool} (h:z8c a0 a1=some r):Cv Tryz.prog (GX X) 103 [.agg (bs (z1v a0)),xI a1,.fn (.func 104) [] []] (z5a r):=by
 refine Cs.toV (?_:Cs Tryz.prog (GX X) 103 [.agg (bs (z1v a0)),xI a1,.fn (.func 104) [] []] [] (z5a r) (zdx r)) (by kernel_rfl)
 refine fnT (cx:=cx X) Tryz.f103 Tryz.call103 Tryz.func103 (by kernel_rfl) ?_
 unfold z8c at h
 obtain ⟨v1,k1,h⟩:=z07 h
 rcases iteE h with ⟨k2,h⟩|⟨k2,h⟩
 ·obtain ⟨v2,k3,h⟩:=z07 h
  obtain ⟨v3,k4,h⟩:=z07 h
  obtain rfl:=retE h
  exact fin (ok X) 5 (.o [0,1,2,3,4,5,6,7,8,9,10,11,12,13,14,15,16,17,18,19,20]::.i (a0.f_p.Chans.length:Int)::.c (z16 v1)::bT 6 (.e (z0m v2)::.b true::.b true::.c (zg3 v3)::bT 4 [])) (pA (lm z0m a0.f_p.Chans) (pA (z1d (X:=X) k1) (pR 6 k2 (pA (ixm z0m k3) (pA k2 (pA k2 (pA (zol (X:=X) k4) (pR 4 k2 pT)))))))) (by kernel_rfl)
 ·obtain rfl:=retE h
  exact fin (ok X) 5 (.o [0,1,2,3,4,5,6,7,8,9,10,11,12,13,14,15,16,17,18,19,20]::.i (a0.f_p.Chans.length:Int)::.c (z16 v1)::bF 12 []) (pA (lm z0m a0.f_p.Chans) (pA (z1d (X:=X) k1) (pR 12 k2 pT))) (by kernel_rfl)
theorem z7u {a0:z1q} {a1:Int} {a2:Int} {r:Bool} (h:zbm a0 a1 a2=some r):Cv Tryz.prog (GX X) 105 [.agg (bs (z1v a0)),xI a1,xI a2] (z61 r):=by
 refine Cs.toV (?_:Cs Tryz.prog (GX X) 105 [.agg (bs (z1v a0)),xI a1,xI a2] [] (z61 r) (zkq r)) (by kernel_rfl)
 refine fnT (cx:=cx X) Tryz.f105 Tryz.call105 Tryz.func105 (by kernel_rfl) ?_
 unfold zbm at h
 obtain ⟨v1,k1,h⟩:=z07 h
 obtain ⟨v2,k2,h⟩:=z07 h
 obtain rfl:=retE h
 exact fin (ok X) 5 [.e (z0m v1),.c (z16 v2)] (pA (ixm z0m k1) (pA (z1d (X:=X) k2) pT)) (by kernel_rfl)
theorem zrr {a0:z0a} {r:Int} (h:zm2 a0=some r):Cv Tryz.prog (GX X) 106 [.agg (bs (z0m a0))] (zi2 r):=by
 refine Cs.toV (?_:Cs Tryz.prog (GX X) 106 [.agg (bs (z0m a0))] [] (zi2 r) (zri r)) (by kernel_rfl)
 refine fnT (cx:=cx X) Tryz.f106 Tryz.call106 Tryz.func106 (by kernel_rfl) ?_
 unfold zm2 at h
 obtain rfl:=retE h
 exact fin (ok X) 5 [] pT (by kernel_rfl)
theorem zam {a0:z1q} {a1:Int} {r:Bool} (h:z93 a0 a1=some r):Cv Tryz.prog (GX X) 103 [.agg (bs (z1v a0)),xI a1,.fn (.func 106) [] []] (z6p r):=by
 refine Cs.toV (?_:Cs Tryz.prog (GX X) 103 [.agg (bs (z1v a0)),xI a1,.fn (.func 106) [] []] [] (z6p r) (zev r)) (by kernel_rfl)
 refine fnT (cx:=cx X) Tryz.f103 Tryz.call103 Tryz.func103 (by kernel_rfl) ?_
 unfold z93 at h
 obtain ⟨v1,k1,h⟩:=z07 h
 rcases iteE h with ⟨k2,h⟩|⟨k2,h⟩
 ·obtain ⟨v2,k3,h⟩:=z07 h
  obtain ⟨v3,k4,h⟩:=z07 h
  obtain rfl:=retE h
  exact fin (ok X) 5 (.o [0,1,2,3,4,5,6,7,8,9,10,11,12,13,14,15,16,17,18,19,20]::.i (a0.f_p.Chans.length:Int)::.c (z16 v1)::bT 6 (.e (z0m v2)::.b true::.b true::.c (zi2 v3)::bT 4 [])) (pA (lm z0m a0.f_p.Chans) (pA (z1d (X:=X) k1) (pR 6 k2 (pA (ixm z0m k3) (pA k2 (pA k2 (pA (zrr (X:=X) k4) (pR 4 k2 pT)))))))) (by kernel_rfl)
 ·obtain rfl:=retE h
  exact fin (ok X) 5 (.o [0,1,2,3,4,5,6,7,8,9,10,11,12,13,14,15,16,17,18,19,20]::.i (a0.f_p.Chans.length:Int)::.c (z16 v1)::bF 12 []) (pA (lm z0m a0.f_p.Chans) (pA (z1d (X:=X) k1) (pR 12 k2 pT))) (by kernel_rfl)
theorem ziw {n:Nat} (ih_check_looker_stmts:∀ (a0:z1q) (a1:(List z0h)) (r:Bool),z2c n a0 a1=some r→Cv Tryz.prog (GX X) 29 [.agg (bs (z1v a0)),xL (List.map z2l a1)] (z2w r)) (ih_check_looker_stmt:∀ (a0:z1q) (a1:z0h) (r:Bool),z3r n a0 a1=some r→Cv Tryz.prog (GX X) 66 [.agg (bs (z1v a0)),.agg (bs (z7i a1))] (z69 r)) (ih_check_looker_arms:∀ (a0:z1q) (a1:Int) (a2:(List z3z)) (r:Bool),z4c n a0 a1 a2=some r→Cv Tryz.prog (GX X) 107 [.agg (bs (z1v a0)),xI a1,xL (List.map z3g a2)] (z5s r)) (a0:z1q) (a1:(List z0h)) (r:Bool) (h:z2c (n+1) a0 a1=some r):Cv Tryz.prog (GX X) 29 [.agg (bs (z1v a0)),xL (List.map z2l a1)] (z2w r):=by
 refine Cs.toV (?_:Cs Tryz.prog (GX X) 29 [.agg (bs (z1v a0)),xL (List.map z2l a1)] [] (z2w r) (ze2 r)) (by kernel_rfl)
 refine fnT (cx:=cx X) Tryz.f29 Tryz.call29 Tryz.func29 (by kernel_rfl) ?_
 rw [z2c] at h
 refine adv (ok X) 5 [.i (a1.length:Int)] (pA (lm z2l a1) pT) (by kernel_rfl) ?_
 refine lp (ok X) (z8u (z2c n) (z3r n) (z4c n) a0 a1) (fun (x1:Int)=>⟨18,0,[(2,[xP 0 0]),(7,[xL (List.map z2l a1)]),(8,[xI (a1.length:Int)]),(9,[xI x1])],[oB 110 (bs (z1v a0))]⟩) (fun (j1:Unit)=>⟨18,0,[],[]⟩) ziq 0 (fun _=>⟨_,_,_,_,rfl⟩) h (by kernel_rfl) (fun x1 o h=>?_) (fun r' h=>?_) (fun j1 h=>?_)
 ·unfold z8u at h
  rcases iteE h with ⟨k1,h⟩|⟨k1,h⟩
  ·obtain ⟨v1,k2,h⟩:=z07 h
   obtain ⟨v2,k3,h⟩:=z07 h
   refine adv (ok X) 11 [.b true,.e (z7i v1),.c (z69 v2)] (pA k1 (pA (ixr zeo k2) (pA (ih_check_looker_stmt _ _ _ k3) pT))) (by kernel_rfl) ?_
   rcases iteE h with ⟨k4,h⟩|⟨k4,h⟩
   ·obtain rfl:=retE h
    exact fin (ok X) 4 [.b true] (pA k4 pT) (by kernel_rfl)
   ·obtain rfl:=retE h
    exact fin (ok X) 4 [.b false] (pA k4 pT) (by kernel_rfl)
  ·obtain rfl:=retE h
   exact fin (ok X) 5 [.b false] (pA k1 pT) (by kernel_rfl)
 ·obtain rfl:=retE h
  kernel_rfl
 ·obtain rfl:=retE h
  exact fin (ok X) 3 [] pT (by kernel_rfl)
end Go.Proofs.YtimbigpplbbjaaaGreatDoor.Abs

/- Abstract states of the machine: arrays by functions of their places. -/
import Derived.Test.YtimbigpplbbjaaaGreatDoorAbsP
namespace Go.Proofs.YtimbigpplbbjaaaGreatDoor.Abs
open Go Go.RowKit
set_option linter.unusedVariables false
set_option linter.unusedSimpArgs false
section
variable {P:Program} {G:Nat→Option (List PV)} {ops:Array Oper} {o:Oper} {l:List Oper} {n m t:Nat} {env env':List (Nat × List XV)} {st st':z0q} {K:Sx→Prop} {Q:Exit→Sx→Prop}
def ar {α:Type} (n:Nat) (f:Nat→List α):List α:=(List.range n).flatMap f
theorem zlo {α:Type} (n:Nat) (f:Nat→List α):ar (n+1) f=ar n f++f n:=by
 unfold ar
 rw [List.range_succ,List.flatMap_append]
 simp
theorem zkd {α:Type} {n:Nat} {f g:Nat→List α} (h:∀ i,i<n→f i=g i):ar n f=ar n g:=by
 induction n with
 | zero=>rfl
 | succ n ih=>rw [zlo,zlo,ih (fun i hi=>h i (by omega)),h n (by omega)]
theorem ziy {α:Type} {n sz:Nat} {f:Nat→List α} (hf:∀ i,(f i).length=sz):(ar n f).length=n*sz:=by
 induction n with
 | zero=>simp [ar]
 | succ n ih=>rw [zlo,List.length_append,ih,hf,Nat.succ_mul]
theorem z04e {α:Type} {n sz k:Nat} {f:Nat→List α} (hf:∀ i,(f i).length=sz) (hk:k<n) (r:Nat) (hr:r≤sz) (q:List α):∃ z,(ar n f++q).drop (k*sz+r)=(f k).drop r++z:=by
 induction n generalizing q with
 | zero=>omega
 | succ n ih =>
  rw [zlo,List.append_assoc]
  by_cases e:k=n
  ·subst e
   rw [List.drop_append,ziy hf,show k*sz+r - k*sz=r by omega,List.drop_eq_nil_of_le (by rw [ziy hf];omega),List.nil_append,List.drop_append]
   have:r - (f k).length=0:=by rw [hf];omega
   rw [this]
   exact ⟨_,rfl⟩
  ·exact ih (by omega) _
theorem getElem?_drop0 {α:Type} (l:List α) (i:Nat):l[i]?=(l.drop i)[0]?:=by rw [List.getElem?_drop];rfl
theorem zy1 {α:Type} {n sz k r:Nat} {f:Nat→List α} (hf:∀ i,(f i).length=sz) (hk:k<n) (hr:r<sz) (q:List α):(ar n f++q)[k*sz+r]?=(f k)[r]?:=by
 rw [getElem?_drop0]
 obtain ⟨z,hz⟩:=z04e hf hk r (by omega) q
 rw [hz,List.getElem?_append_left (by rw [List.length_drop,hf];omega),List.getElem?_drop]
 rfl
theorem zy2 {α:Type} {n sz k r:Nat} {f:Nat→List α} {y:α} (hf:∀ i,(f i).length=sz) (hk:k<n) (hr:r<sz):(ar n f).set (k*sz+r) y=ar n fun i=>if i=k then (f k).set r y else f i:=by
 induction n with
 | zero=>omega
 | succ n ih =>
  rw [zlo,zlo]
  by_cases e:k=n
  ·subst e
   rw [List.set_append_right _ _ (by rw [ziy hf];omega),ziy hf,if_pos rfl,show k*sz+r - k*sz=r by omega]
   congr 1
   exact zkd fun i hi=>by rw [if_neg (by omega)]
  ·have hlt:k*sz+r<n*sz:=by
    have:(k+1)*sz≤n*sz:=Nat.mul_le_mul_right sz (by omega)
    rw [Nat.succ_mul] at this;omega
   rw [List.set_append_left _ _ (by rw [ziy hf];exact hlt),ih (by omega),if_neg (Ne.symm e)]
def upd {α:Type} (D:Nat→α) (k:Nat) (x:α):Nat→α:=fun i=>if i=k then x else D i
def upd2 {α:Type} (D:Nat→Nat→α) (k l:Nat) (x:α):Nat→Nat→α:=upd D k (upd (D k) l x)
theorem zhm {α:Type} (D:Nat→Nat→α) (k l:Nat) (x:α) (i j:Nat):upd2 D k l x i j=if i=k∧j=l then x else D i j:=by
 unfold upd2 upd
 by_cases h:i=k
 ·subst h;rw [if_pos rfl]
  by_cases h':j=l
  ·rw [if_pos h',if_pos ⟨rfl,h'⟩]
  ·rw [if_neg h',if_neg (fun c=>h' c.2)]
 ·rw [if_neg h,if_neg (fun c=>h c.1)]
theorem zhn {len k:Nat} {i:Int} (h:inA len i=some k):k<len:=by
 obtain ⟨h0,h1,rfl⟩:=inAE h;omega
section arrays
variable {α:Type} {e:α→PV} {len:Nat} {D:Nat→α} {D2:Nat→Nat→α} {n1 n2 k k1 k2:Nat}
theorem z075 (pre post:List PV) (hk:k<len):((pre++(ar len (fun i=>[e (D i)])++post)).map BV.pv)[pre.length+k*1]?=some (.pv (e (D k))):=by
 rw [List.getElem?_map,List.getElem?_append_right (by omega),show pre.length+k*1 - pre.length=k*1+0 by omega,zy1 (sz:=1) (fun _=>rfl) hk (by omega)]
 rfl
theorem z076 (pre post:List PV) (x:α) (hk:k<len):((pre++(ar len (fun i=>[e (D i)])++post)).map BV.pv).set (pre.length+k*1) (.pv (e x))=(pre++(ar len (fun i=>[e (upd D k x i)])++post)).map BV.pv:=by
 rw [← List.map_set,List.set_append_right _ _ (by omega),show pre.length+k*1 - pre.length=k*1+0 by omega,List.set_append_left _ _ (by rw [ziy (sz:=1) (fun _=>rfl)];omega),zy2 (sz:=1) (fun _=>rfl) hk (by omega)]
 congr 3
 refine zkd fun i hi=>?_
 unfold upd
 by_cases h:i=k
 ·rw [if_pos h,if_pos h];rfl
 ·rw [if_neg h,if_neg h]
theorem zuf (i:Nat):(ar n2 (fun j=>[e (D2 i j)])).length=n2:=by rw [ziy (sz:=1) (fun _=>rfl)];omega
theorem z077 (pre post:List PV) (h1:k1<n1) (h2:k2<n2):((pre++(ar n1 (fun i=>ar n2 fun j=>[e (D2 i j)])++post)).map BV.pv)[pre.length+k1*n2+k2*1]?=some (.pv (e (D2 k1 k2))):=by
 rw [List.getElem?_map,List.getElem?_append_right (by omega),show pre.length+k1*n2+k2*1 - pre.length=k1*n2+k2 by omega,zy1 (sz:=n2) (fun i=>zuf i) h1 h2]
 have:=zy1 (n:=n2) (sz:=1) (k:=k2) (r:=0) (f:=fun j=>[e (D2 k1 j)]) (fun _=>rfl) h2 (by omega) []
 rw [List.append_nil,show k2*1+0=k2 by omega] at this
 rw [this];rfl
theorem z078 (pre post:List PV) (x:α) (h1:k1<n1) (h2:k2<n2):((pre++(ar n1 (fun i=>ar n2 fun j=>[e (D2 i j)])++post)).map BV.pv).set (pre.length+k1*n2+k2*1) (.pv (e x))=(pre++(ar n1 (fun i=>ar n2 fun j=>[e (upd2 D2 k1 k2 x i j)])++post)).map BV.pv:=by
 have hlt:k1*n2+k2<n1*n2:=by
  have:(k1+1)*n2≤n1*n2:=Nat.mul_le_mul_right n2 (by omega)
  rw [Nat.succ_mul] at this;omega
 rw [← List.map_set,List.set_append_right _ _ (by omega),show pre.length+k1*n2+k2*1 - pre.length=k1*n2+k2 by omega,List.set_append_left _ _ (by rw [ziy (fun i=>zuf i)];exact hlt),zy2 (sz:=n2) (fun i=>zuf i) h1 h2]
 congr 3
 refine zkd fun i hi=>?_
 by_cases h:i=k1
 ·subst h
  rw [if_pos rfl]
  have:=zy2 (n:=n2) (sz:=1) (k:=k2) (r:=0) (f:=fun j=>[e (D2 i j)]) (y:=e x) (fun _=>rfl) h2 (by omega)
  rw [show k2*1+0=k2 by omega] at this
  rw [this]
  refine zkd fun j hj=>?_
  rw [zhm]
  by_cases h':j=k2
  ·rw [if_pos h',if_pos ⟨rfl,h'⟩];rfl
  ·rw [if_neg h',if_neg (fun c=>h' c.2)]
 ·rw [if_neg h]
  refine zkd fun j hj=>?_
  rw [zhm,if_neg (fun c=>h c.1)]
end arrays
theorem z04f {T E:TypeId} {x ix:Operand} {k:IntKind} {i:Int} {b off len sz kk:Nat} {agg:Bool} (ho:o.op=.indexAddr T x ix) (hu:P.underlying T=some (.array len E)) (hT:Ty P E agg sz)
  (hx:val G env x=some (.c (.box b off))) (hi:val G env ix=some (.c (.pv (.int k i)))) (h:inA len i=some kk):LtT P G o ⟨n,m,env,st⟩ [.c (.box b (off+kk*sz))]:=by
 obtain ⟨h0,h1,rfl⟩:=inAE h
 exact zqi ho hu hT hx hi h0 h1
end
end Go.Proofs.YtimbigpplbbjaaaGreatDoor.Abs

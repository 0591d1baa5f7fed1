/- The evaluator: what a printed proof hands over, from typed values. -/
import Derived.Test.YtimbigpplbbjaaaGreatDoorEvF
namespace Go.Proofs.YtimbigpplbbjaaaGreatDoor.Abs
open Go Go.RowKit
set_option linter.unusedVariables false
theorem pA {p q:Prop} (h:p) (t:q):p∧q:=⟨h,t⟩
theorem pT:True:=trivial
def rp (p:Prop):Nat→Prop→Prop
 | 0,q=>q
 | n+1,q=>p∧rp p n q
theorem pR (n:Nat) {p q:Prop} (h:p) (t:q):rp p n q:=by
 induction n with
 | zero=>exact t
 | succ n ih=>exact ⟨h,ih⟩
def bT:Nat→List Ans→List Ans
 | 0,l=>l
 | n+1,l=>.b true::bT n l
def bF:Nat→List Ans→List Ans
 | 0,l=>l
 | n+1,l=>.b false::bF n l
abbrev xI (n:Int):XV:=.c (.pv (.int .i64 n))
abbrev xB (b:Bool):XV:=.c (.pv (.bool b))
abbrev xS (s:ByteArray):XV:=.c (.pv (.str s))
abbrev xL (l:List (List PV)):XV:=.c (.pv (.sl l))
abbrev xP (b o:Nat):XV:=.c (.box b o)
abbrev xR (b:Nat):XV:=.c (.row b)
abbrev ap (x y:List BV):List BV:=x++y
abbrev oB (T:Nat) (cs:List BV):Option Obj':=some (.box true T cs)
abbrev oR (ch:Bool) (E sz:Nat) (xs:List (List PV)):Option Obj':=some (.row true ch E sz xs)
theorem tt:true=true:=rfl
theorem ff:false=false:=rfl
section
variable {α:Type} {e f:α→List PV} {L M v:List α} {x z:α} {i j:Int} {n k:Nat}
theorem ixm (e:α→List PV) (h:idx L i=some x):idx (L.map e) i=some (e x):=by
 obtain ⟨h0,h1⟩:=idxE h
 unfold idx
 rw [if_pos h0,List.getElem?_map,h1];rfl
theorem ixr (he:∀ x,e x=f x) (h:idx L i=some x):idx (L.map e) i=some (f x):=by rw [ixm e h,he]
theorem lm (e:α→List PV) (L:List α):((L.map e).length:Int)=(L.length:Int):=by rw [List.length_map]
theorem lsm (e:α→List PV) (h:lsub L i j=some v):lsub (L.map e) i j=some (v.map e):=by
 obtain ⟨h1,rfl⟩:=z071 h
 unfold lsub
 rw [if_pos (by rw [List.length_map];exact h1),List.map_drop,List.map_take]
theorem lsm0 (e:α→List PV) (h:lsub L i (L.length:Int)=some v):lsub (L.map e) i ((L.map e).length:Int)=some (v.map e):=by
 rw [List.length_map];exact lsm e h
theorem lnm (he:∀ x,(e x).length=n) (L:List α):∀ y∈L.map e,y.length=n:=fun y hy=>by
 obtain ⟨x,_,rfl⟩:=List.mem_map.1 hy
 exact he x
theorem apm {B:Nat} (he:∀ x,(e x).length=n) (h:app B L M=some v):App B n (L.map e) (M.map e) (v.map e):=by
 obtain ⟨h1,rfl⟩:=appE h
 exact ⟨lnm he M,by rw [List.length_map,List.length_map];exact h1,by rw [List.map_append]⟩
theorem rwm (e:α→List PV) (h:idx L i=some x):(L.map e)[i.toNat]?=some (e x):=z04a e (idxE h).2
theorem sem (e:α→List PV) (L:List α) (i:Int) (z:α):(L.map e).set i.toNat (e z)=(seti L i z).map e:=by unfold seti;rw [List.map_set]
theorem cpm1 (he:∀ x,(e x).length=1) (M:List α):∀ y∈M.map e,y.length=1:=lnm he M
theorem cpm2 (e:α→List PV) (L M:List α):cpy (L.map e) (M.map e)=(cpy L M).map e:=z04m e L M
theorem cpm3 (e:α→List PV) (L M:List α):min ((M.map e).length:Int) ((L.map e).length:Int)=min (M.length:Int) (L.length:Int):=by rw [List.length_map,List.length_map]
theorem bl0 (e:α→List PV):([]:List (List PV))=([]:List α).map e:=rfl
theorem blc {p:List PV} {ps:List (List PV)} (h:p=e x) (t:ps=L.map e):p::ps=(x::L).map e:=by rw [h,t];rfl
section
variable {D:Nat→α} {D2:Nat→Nat→α} {g:α→PV} {n1 n2:Nat}
end
end
end Go.Proofs.YtimbigpplbbjaaaGreatDoor.Abs

/- Abstract states of the machine: rules for slices that are told by typed lists, and the answers that may not be. -/
import Derived.Test.YtimbigpplbbjaaaGreatDoorAbsL
namespace Go.Proofs.YtimbigpplbbjaaaGreatDoor.Abs
open Go Go.RowKit
set_option linter.unusedVariables false
set_option linter.unusedSimpArgs false
section
variable {P:Program} {G:Nat→Option (List PV)} {ops:Array Oper} {o:Oper} {l:List Oper} {n m t:Nat} {env env':List (Nat × List XV)} {st st':z0q} {K:Sx→Prop} {Q:Exit→Sx→Prop}
variable {α:Type} {e:α→List PV}
def arr {α:Type} (d:α) (L:List α) (i:Nat):α:=L.getD i d
def app {α:Type} (B:Nat) (L M:List α):Option (List α):=if (L.length+M.length)*B≤140737488355328 then some (L++M) else none
theorem appE {B:Nat} {L M v:List α} (h:app B L M=some v):(L.length+M.length)*B≤140737488355328∧v=L++M:=by
 unfold app at h
 split at h
 ·exact ⟨by assumption,(retE h).symm⟩
 ·cases h
def scat (a b:ByteArray):Option ByteArray:=if a.size+b.size≤9223372036854775807 then some (a++b) else none
theorem z070 {a b v:ByteArray} (h:scat a b=some v):a.size+b.size≤9223372036854775807∧v=a++b:=by
 unfold scat at h
 split at h
 ·exact ⟨by assumption,(retE h).symm⟩
 ·cases h
def quo (k:IntKind) (a b:Int):Option Int:=if b=0 then none else some (k.wrap (a.tdiv b))
theorem quoE {k:IntKind} {a b v:Int} (h:quo k a b=some v):b≠0∧v=k.wrap (a.tdiv b):=by
 unfold quo at h
 split at h
 ·cases h
 ·exact ⟨by assumption,(retE h).symm⟩
def rem (a b:Int):Option Int:=if b=0 then none else some (a.tmod b)
theorem remE {a b v:Int} (h:rem a b=some v):b≠0∧v=a.tmod b:=by
 unfold rem at h
 split at h
 ·cases h
 ·exact ⟨by assumption,(retE h).symm⟩
def shl (k:IntKind) (a b:Int):Option Int:=if 0≤b then some (k.wrap (a*2 ^ min b.toNat k.bits)) else none
theorem shlE {k:IntKind} {a b v:Int} (h:shl k a b=some v):0≤b∧v=k.wrap (a*2 ^ min b.toNat k.bits):=by
 unfold shl at h
 split at h
 ·exact ⟨by assumption,(retE h).symm⟩
 ·cases h
def shr (k:IntKind) (a b:Int):Option Int:=if 0≤b then some (a.fdiv (2 ^ min b.toNat k.bits)) else none
theorem shrE {k:IntKind} {a b v:Int} (h:shr k a b=some v):0≤b∧v=a.fdiv (2 ^ min b.toNat k.bits):=by
 unfold shr at h
 split at h
 ·exact ⟨by assumption,(retE h).symm⟩
 ·cases h
def bidx (s:ByteArray) (i:Int):Option Int:=if 0≤i then (s[i.toNat]?).map fun c=>(c.toNat:Int) else none
theorem z09l {s:ByteArray} {i v:Int} (h:bidx s i=some v):0≤i∧∃ c,s[i.toNat]?=some c∧v=(c.toNat:Int):=by
 unfold bidx at h
 split at h
 ·cases hc:s[i.toNat]? with
  | none=>rw [hc] at h;cases h
  | some c=>rw [hc] at h;exact ⟨by assumption,c,rfl,(retE h).symm⟩
 ·cases h
def ssub (s:ByteArray) (l r:Int):Option ByteArray:=if 0≤l∧l≤r∧r≤s.size then some (s.extract l.toNat r.toNat) else none
theorem z09m {s v:ByteArray} {l r:Int} (h:ssub s l r=some v):(0≤l∧l≤r∧r≤s.size)∧v=s.extract l.toNat r.toNat:=by
 unfold ssub at h
 split at h
 ·exact ⟨by assumption,(retE h).symm⟩
 ·cases h
def lsub {α:Type} (L:List α) (l r:Int):Option (List α):=if 0≤l∧l≤r∧r≤L.length then some ((L.take r.toNat).drop l.toNat) else none
theorem z071 {L v:List α} {l r:Int} (h:lsub L l r=some v):(0≤l∧l≤r∧r≤L.length)∧v=(L.take r.toNat).drop l.toNat:=by
 unfold lsub at h
 split at h
 ·exact ⟨by assumption,(retE h).symm⟩
 ·cases h
def inA (len:Nat) (i:Int):Option Nat:=if 0≤i∧i<len then some i.toNat else none
theorem inAE {len k:Nat} {i:Int} (h:inA len i=some k):0≤i∧i<len∧k=i.toNat:=by
 unfold inA at h
 split at h
 ·rename_i h1;exact ⟨h1.1,h1.2,(retE h).symm⟩
 ·cases h
def seti {α:Type} (L:List α) (i:Int) (x:α):List α:=L.set i.toNat x
theorem cat_ {T U:TypeId} {x y:Operand} {a b v:ByteArray} (ho:o.op=.binOp .add T x y U) (hx:val G env x=some (.c (.pv (.str a)))) (hy:val G env y=some (.c (.pv (.str b)))) (h:scat a b=some v):LtT P G o ⟨n,m,env,st⟩ [.c (.pv (.str v))]:=by
 rw [(z070 h).2];exact z06p ho hx hy (z070 h).1
theorem quo_ {T U:TypeId} {x y:Operand} {k:IntKind} {a b v:Int} (ho:o.op=.binOp .quo T x y U) (hx:val G env x=some (.c (.pv (.int k a)))) (hy:val G env y=some (.c (.pv (.int k b)))) (h:quo k a b=some v):LtT P G o ⟨n,m,env,st⟩ [.c (.pv (.int k v))]:=by
 rw [(quoE h).2];exact z06l ho hx hy (quoE h).1
theorem rem_ {T U:TypeId} {x y:Operand} {k:IntKind} {a b v:Int} (ho:o.op=.binOp .rem T x y U) (hx:val G env x=some (.c (.pv (.int k a)))) (hy:val G env y=some (.c (.pv (.int k b)))) (h:rem a b=some v):LtT P G o ⟨n,m,env,st⟩ [.c (.pv (.int k v))]:=by
 rw [(remE h).2];exact z06m ho hx hy (remE h).1
theorem shl_ {T U:TypeId} {x y:Operand} {k k':IntKind} {a b v:Int} (ho:o.op=.binOp .shl T x y U) (hx:val G env x=some (.c (.pv (.int k a)))) (hy:val G env y=some (.c (.pv (.int k' b)))) (h:shl k a b=some v):LtT P G o ⟨n,m,env,st⟩ [.c (.pv (.int k v))]:=by
 rw [(shlE h).2];exact z06n ho hx hy (shlE h).1
theorem shr_ {T U:TypeId} {x y:Operand} {k k':IntKind} {a b v:Int} (ho:o.op=.binOp .shr T x y U) (hx:val G env x=some (.c (.pv (.int k a)))) (hy:val G env y=some (.c (.pv (.int k' b)))) (h:shr k a b=some v):LtT P G o ⟨n,m,env,st⟩ [.c (.pv (.int k v))]:=by
 rw [(shrE h).2];exact z06o ho hx hy (shrE h).1
theorem z072 {T:TypeId} {x ix:Operand} {k:IntKind} {i v:Int} {s:ByteArray} (ho:o.op=.index T x ix) (hu:P.underlying T=some .string) (hx:val G env x=some (.c (.pv (.str s)))) (hi:val G env ix=some (.c (.pv (.int k i)))) (h:bidx s i=some v) :
  LtT P G o ⟨n,m,env,st⟩ [.c (.pv (.int .u8 v))]:=by
 obtain ⟨h0,c,hc,rfl⟩:=z09l h
 exact zqj ho hu hx hi h0 hc
def BdI (G:Nat→Option (List PV)) (env:List (Nat × List XV)) (o:Option Operand) (d r:Int):Prop:=match o with
 | none=>r=d
 | some x=>∃ k,val G env x=some (.c (.pv (.int k r)))
theorem BdI.bd {o:Option Operand} {d:Nat} {r:Int} (h:BdI G env o d r) (h0:0≤r):Bd G env o d r.toNat:=by
 cases o with
 | none=>have h':r=(d:Int):=h;show r.toNat=d;omega
 | some x=>obtain ⟨k,h⟩:=h;exact ⟨k,r,h,h0,rfl⟩
theorem zxx {T:TypeId} {x:Operand} {lo hi:Option Operand} {s v:ByteArray} {a b:Int} (ho:o.op=.slice T x lo hi none) (hu:P.underlying T=some .string) (hx:val G env x=some (.c (.pv (.str s)))) (hlo:BdI G env lo (0:Nat) a) (hhi:BdI G env hi s.size b) (h:ssub s a b=some v) :
  LtT P G o ⟨n,m,env,st⟩ [.c (.pv (.str v))]:=by
 obtain ⟨⟨h1,h2,h3⟩,rfl⟩:=z09m h
 exact zqk ho hu hx (hlo.bd h1) (hhi.bd (by omega)) (by omega) (by omega)
end
end Go.Proofs.YtimbigpplbbjaaaGreatDoor.Abs

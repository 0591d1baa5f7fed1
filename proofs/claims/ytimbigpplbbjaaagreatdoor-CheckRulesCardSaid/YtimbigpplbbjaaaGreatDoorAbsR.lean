/- Abstract states of the machine: the rules as a walk uses them (the state written out). -/
import Derived.Test.YtimbigpplbbjaaaGreatDoorAbs9
namespace Go.Proofs.YtimbigpplbbjaaaGreatDoor.Abs
open Go Go.RowKit
set_option linter.unusedVariables false
set_option linter.unusedSimpArgs false
section
variable {P:Program} {G:Nat→Option (List PV)} {ops:Array Oper} {o:Oper} {l:List Oper} {n m t:Nat} {env:List (Nat × List XV)} {st st':z0q} {K:Sx→Prop} {Q:Exit→Sx→Prop}
theorem L {x:List XV} (hg:o.guard=none) (hd:o.dst=some t) (h:LtT P G o ⟨n,m,env,st⟩ x) (ht:decide (t<n)=true) (hk:OpsT P G ops l ⟨n,m,(t,x)::env,st⟩ K):OpsT P G ops (o::l) ⟨n,m,env,st⟩ K :=
 zk8 hg (z06j hd (by simpa using ht) h hk)
theorem box {T:TypeId} {x:Operand} {y:XV} {cs:List BV} (b:Nat) (hd:o.dst=some t) (ht:decide (t<n)=true) (ho:o.op=.box T x) (hx:val G env x=some y) (hc:y.cells=some cs) (hb:st.length=b) (hs:st++[some (.box true T cs)]=st')
  (hk:K ⟨n,m,(t,[.c (.box b 0)])::env,st'⟩):OpT P G o ⟨n,m,env,st⟩ K:=by
 subst hb;subst hs
 exact z06t hd ht ho hx hc hk
theorem alloc {T:TypeId} {z:Value} {y:XV} {cs:List BV} (b:Nat) (hd:o.dst=some t) (ht:decide (t<n)=true) (ho:o.op=.alloc T) (hz:(P.info? T).bind (·.zero)=some z) (hy:cv z=some y) (hc:y.cells=some cs) (hb:st.length=b) (hs:st++[some (.box true T cs)]=st')
  (hk:K ⟨n,m,(t,[.c (.box b 0)])::env,st'⟩):OpT P G o ⟨n,m,env,st⟩ K:=by
 subst hb;subst hs
 exact z00r hd ht ho hz hy hc hk
theorem store {T T0:TypeId} {x y:Operand} {b off sz:Nat} {agg:Bool} {v:XV} {cs ys cs':List BV} (hd:o.dst=none) (ho:o.op=.store T x y) (hT:Ty P T agg sz)
  (hx:val G env x=some (.c (.box b off))) (hb:st[b]?=some (some (.box true T0 cs))) (hy:val G env y=some v) (hc:v.cells=some ys) (hl:ys.length=sz) (hfit:decide (off+ys.length≤cs.length)=true)
  (he:putAt cs off ys=cs') (hs:st.set b (some (.box true T0 cs'))=st') (hk:K ⟨n,m,env,st'⟩):OpT P G o ⟨n,m,env,st⟩ K:=by
 subst hs
 exact zmy hd ho hT hx hb hy hc hl (by simpa using hfit) he hk
theorem call {f:FuncId} {xs:Array Operand} {ts:Array TypeId} {argsX argsL:List XV} {stL:z0q} {R:List XV→z0q→Prop} (ids ro:List Nat) (hd:o.dst=some t) (ht:decide (t<n)=true)
  (ho:o.op=.call { callee:=.value (.func f),args:=xs,argTypes:=ts }) (hcall:∀ (args:Array Value) (w:World),(callFunc f args).run P w=.ok (.enter f args) w) (ha:vals G env xs.toList=some argsX)
  (hn:(decide ids.Nodup&&ids.all (fun b=>decide (b<st.length)))=true) (hargs:argsX.map (XV.map (loc ids))=argsL) (hst:locS ids ro st=stL) (hM:zpd P G f argsL stL R)
  (hk:∀ r st',R r st'→K (behind ⟨n,m,env,st⟩ t ids ro r st')):OpT P G o ⟨n,m,env,st⟩ K :=
 z046 ids ro hd ht ho hcall ha hn hargs hst hM hk
def BV.pure:BV→Bool
 | .any|.pv _|.emp|.ep _=>true
 | _=>false
def XV.pure:XV→Bool
 | .u=>true
 | .c x=>x.pure
 | .agg xs=>xs.all BV.pure
 | .fn _ a b=>a.all BV.pure&&b.all BV.pure
end
end Go.Proofs.YtimbigpplbbjaaaGreatDoor.Abs

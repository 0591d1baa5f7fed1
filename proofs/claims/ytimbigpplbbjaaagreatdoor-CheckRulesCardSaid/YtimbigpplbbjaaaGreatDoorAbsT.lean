/- Abstract states of the machine: runs of operations that only look, reckoned at once. -/
import Derived.Test.YtimbigpplbbjaaaGreatDoorAbsS
namespace Go.Proofs.YtimbigpplbbjaaaGreatDoor.Abs
open Go Go.RowKit
set_option linter.unusedVariables false
set_option linter.unusedSimpArgs false
structure Tb where
 tyL:List (Nat × (Bool × Nat))
 flL:List ((Nat × Nat) × (Nat × Nat))
 ikL:List (Nat × IntKind)
def as1 {κ β:Type} [DecidableEq κ]:List (κ × β)→κ→Option β
 | [],_=>none
 | (k,v)::r,x=>if k=x then some v else as1 r x
theorem znh {κ β:Type} [DecidableEq κ]:∀ {l:List (κ × β)} {x:κ} {v:β},as1 l x=some v→(x,v)∈l
 | (k,w)::r,x,v,h=>by
  unfold as1 at h
  split at h
  ·rename_i e;subst e;injection h with h;subst h;exact List.mem_cons_self
  ·exact List.mem_cons_of_mem _ (znh h)
def z079 (P:Program) (tb:Tb):Bool :=
 (tb.tyL.all fun q=>decide ((P.underlying q.1).map aggr=some q.2.1)&&decide ((P.info? q.1).map (·.size)=some q.2.2)) &&
 (tb.flL.all fun q=>decide ((P.underlying q.1.1).bind (zn8 q.1.2)=some q.2)) &&
 (tb.ikL.all fun q=>match P.underlying q.1 with|some (.int k)=>decide (k=q.2)|_=>false)
structure TbOk (P:Program) (tb:Tb):Prop where
 ty:∀ {T:Nat} {q:Bool × Nat},as1 tb.tyL T=some q→Ty P T q.1 q.2
 fl:∀ {S i:Nat} {q:Nat × Nat},as1 tb.flL (S,i)=some q→zn9 P S i q.1 q.2
 ik:∀ {T:Nat} {k:IntKind},as1 tb.ikL T=some k→P.underlying T=some (.int k)
theorem z014 {P:Program} {tb:Tb} (h:z079 P tb=true):TbOk P tb:=by
 unfold z079 at h
 simp only [Bool.and_eq_true,List.all_eq_true] at h
 refine ⟨fun {T q} hq=>?_,fun {S i q} hq=>?_,fun {T k} hq=>?_⟩
 ·have:=h.1.1 _ (znh hq)
  simp only [decide_eq_true_eq] at this
  exact ⟨this.1,this.2⟩
 ·have:=h.1.2 _ (znh hq)
  exact ⟨of_decide_eq_true this⟩
 ·have:=h.2 _ (znh hq)
  simp only at this
  split at this
  ·rename_i k' e;rw [e,of_decide_eq_true this]
  ·cases this
section
variable {P:Program} {G:Nat→Option (List PV)} {ops:Array Oper} {o:Oper} {l:List Oper} {n m t:Nat} {env env':List (Nat × List XV)} {st st':z0q} {K:Sx→Prop} {Q:Exit→Sx→Prop} {tb:Tb}
def zow (G:Nat→Option (List PV)) (env:List (Nat × List XV)):Operand→Option (List XV)
 | .tmp t=>lk env t
 | x=>(val G env x).map fun y=>[y]
def z04i (v:Option XV):Option (List XV):=match v with
 | some (.c (.box b o))=>some [.c (.box b o)]
 | some (.c (.ep p))=>some [.c (.ep p)]
 | some (.c (.rp b s i o))=>some [.c (.rp b s i o)]
 | _=>none
def evFA (tb:Tb) (S i:Nat) (v:Option XV):Option (List XV):=match as1 tb.flL (S,i) with
 | some (fo,ft)=>match as1 tb.tyL ft with
  | some (_,0)=>none
  | some (_,_+1)=>match v with
   | some (.c (.box b off))=>some [.c (.box b (off+fo))]
   | some (.c (.ep ps))=>some [.c (.ep (ps.drop fo))]
   | some (.c (.rp b s j off))=>some [.c (.rp b s j (off+fo))]
   | _=>none
  | none=>none
 | none=>none
def zsi (tb:Tb) (S i:Nat) (v:Option XV):Option (List XV):=match as1 tb.flL (S,i) with
 | some (fo,ft)=>match as1 tb.tyL ft,v with
  | some (true,sz),some (.agg xs)=>some [.agg ((xs.drop fo).take sz)]
  | some (false,_),some (.agg xs)=>(xs[fo]?).map fun y=>[.c y]
  | _,_=>none
 | none=>none
def zug (tb:Tb) (T:Nat) (st:z0q) (v:Option XV):Option (List XV):=match as1 tb.tyL T,v with
 | some (true,sz),some (.c (.box b off))=>match st[b]? with
  | some (some (.box _ _ cs))=>if ((cs.drop off).take sz).length=sz then some [.agg ((cs.drop off).take sz)] else none
  | _=>none
 | some (false,_),some (.c (.box b off))=>match st[b]? with
  | some (some (.box _ _ cs))=>(cs[off]?).map fun y=>[.c y]
  | _=>none
 | some (true,sz),some (.c (.ep ps))=>if sz≤ps.length then some [.agg ((ps.take sz).map .pv)] else none
 | some (false,_),some (.c (.ep (p::_)))=>some [.c (.pv p)]
 | _,_=>none
def z015 (op:BinOp) (x y:Option XV):Option (List XV):=match x,y with
 | some (.c (.pv (.int k a))),some (.c (.pv (.int k' b)))=>if k=k' then (arith op k a b).map fun r=>[.c (.pv r)] else none
 | some (.c (.pv (.str a))),some (.c (.pv (.str b)))=>(z040 op a b).map fun r=>[.c (.pv r)]
 | _,_=>none
def ev1 (tb:Tb) (G:Nat→Option (List PV)) (env:List (Nat × List XV)) (st:z0q):Op→Option (List XV)
 | .move x=>zow G env x
 | .assign x=>zow G env x
 | .nilCheck x=>z04i (val G env x)
 | .extract (.tmp t) i=>match lk env t with
  | some ys=>if 2≤ys.length then (ys[i]?).map fun y=>[y] else none
  | none=>none
 | .fieldAddr S x i=>evFA tb S i (val G env x)
 | .field S x i=>zsi tb S i (val G env x)
 | .load T x=>zug tb T st (val G env x)
 | .binOp op T x y U=>z015 op (val G env x) (val G env y)
 | .unOp .not T x=>match val G env x with
  | some (.c (.pv (.bool b)))=>some [.c (.pv (.bool (!b)))]
  | _=>none
 | .unOp .neg T x=>match val G env x with
  | some (.c (.pv (.int k a)))=>some [.c (.pv (.int k (k.wrap (0 - a))))]
  | _=>none
 | .convert S D x=>match as1 tb.ikL S,as1 tb.ikL D,val G env x with
  | some _,some k',some (.c (.pv (.int _ a)))=>some [.c (.pv (.int k' (k'.wrap a)))]
  | _,_,_=>none
 | _=>none
theorem zsj {x:Operand} {r:List XV} (ho:o.op=.move x) (h:zow G env x=some r):LtT P G o ⟨n,m,env,st⟩ r:=by
 cases x with
 | tmp t=>exact z013 ho h
 | _ =>
  simp only [zow,Option.map_eq_some_iff] at h
  obtain ⟨y,hy,rfl⟩:=h
  exact z03y ho hy
theorem zpn {x:Operand} {r:List XV} (ho:o.op=.assign x) (h:zow G env x=some r):LtT P G o ⟨n,m,env,st⟩ r:=by
 cases x with
 | tmp t=>exact zvs ho h
 | _ =>
  simp only [zow,Option.map_eq_some_iff] at h
  obtain ⟨y,hy,rfl⟩:=h
  exact zxd ho hy
theorem z016 {x:Operand} {r:List XV} (ho:o.op=.nilCheck x) (h:z04i (val G env x)=some r):LtT P G o ⟨n,m,env,st⟩ r:=by
 unfold z04i at h
 split at h
 ·rename_i hv;injection h with h;subst h;exact zjd ho hv trivial
 ·rename_i hv;injection h with h;subst h;exact zjd ho hv trivial
 ·rename_i hv;injection h with h;subst h;exact zjd ho hv trivial
 ·cases h
theorem z04j (hT:TbOk P tb) {S i:Nat} {x:Operand} {r:List XV} (ho:o.op=.fieldAddr S x i) (h:evFA tb S i (val G env x)=some r):LtT P G o ⟨n,m,env,st⟩ r:=by
 unfold evFA at h
 split at h
 ·rename_i fo ft hf
  split at h
  ·cases h
  ·rename_i a sz ht
   split at h
   ·rename_i hv;injection h with h;subst h;exact zxe ho (hT.fl hf) (hT.ty ht) (Nat.succ_ne_zero _) hv
   ·rename_i hv;injection h with h;subst h;exact z00n ho (hT.fl hf) (hT.ty ht) (Nat.succ_ne_zero _) hv rfl
   ·rename_i hv;injection h with h;subst h;exact z00o ho (hT.fl hf) (hT.ty ht) (Nat.succ_ne_zero _) hv
   ·cases h
  ·cases h
 ·cases h
theorem zw4 (hT:TbOk P tb) {S i:Nat} {x:Operand} {r:List XV} (ho:o.op=.field S x i) (h:zsi tb S i (val G env x)=some r):LtT P G o ⟨n,m,env,st⟩ r:=by
 unfold zsi at h
 split at h
 ·rename_i fo ft hf
  split at h
  ·rename_i sz xs ht hv;injection h with h;subst h;exact zxg ho (hT.fl hf) (hT.ty ht) hv rfl
  ·rename_i sz xs ht hv
   simp only [Option.map_eq_some_iff] at h
   obtain ⟨y,hy,rfl⟩:=h
   exact z00q ho (hT.fl hf) (hT.ty ht) hv hy
  ·cases h
 ·cases h
theorem zqz (hT:TbOk P tb) {T:Nat} {x:Operand} {r:List XV} (ho:o.op=.load T x) (h:zug tb T st (val G env x)=some r):LtT P G o ⟨n,m,env,st⟩ r:=by
 unfold zug at h
 split at h
 ·rename_i sz b off ht hv
  split at h
  ·rename_i hb
   split at h
   ·rename_i hl;injection h with h;subst h;exact zmi ho (hT.ty ht) hv hb rfl hl
   ·cases h
  ·cases h
 ·rename_i sz b off ht hv
  split at h
  ·rename_i hb
   simp only [Option.map_eq_some_iff] at h
   obtain ⟨y,hy,rfl⟩:=h
   exact zna ho (hT.ty ht) hv hb hy
  ·cases h
 ·rename_i sz ps ht hv
  split at h
  ·rename_i hl;injection h with h;subst h;exact zs6 ho (hT.ty ht) hv hl rfl
  ·cases h
 ·rename_i sz p ps ht hv;injection h with h;subst h;exact zvu ho (hT.ty ht) hv
 ·cases h
theorem zuh {op:BinOp} {T U:Nat} {x y:Operand} {r:List XV} (ho:o.op=.binOp op T x y U) (h:z015 op (val G env x) (val G env y)=some r):LtT P G o ⟨n,m,env,st⟩ r:=by
 unfold z015 at h
 split at h
 ·rename_i k a k' b hx hy
  split at h
  ·rename_i e;subst e
   simp only [Option.map_eq_some_iff] at h
   obtain ⟨z,hz,rfl⟩:=h
   exact z06k ho hx hy hz
  ·cases h
 ·rename_i a b hx hy
  simp only [Option.map_eq_some_iff] at h
  obtain ⟨z,hz,rfl⟩:=h
  exact z06q ho hx hy hz
 ·cases h
theorem zy5 (hT:TbOk P tb) {r:List XV} (h:ev1 tb G env st o.op=some r):LtT P G o ⟨n,m,env,st⟩ r:=by
 generalize ho:o.op=op at h
 unfold ev1 at h
 split at h
 ·exact zsj ho h
 ·exact zpn ho h
 ·exact z016 ho h
 ·rename_i t i
  split at h
  ·rename_i ys hy
   split at h
   ·rename_i hl
    simp only [Option.map_eq_some_iff] at h
    obtain ⟨z,hz,rfl⟩:=h
    exact zvt ho hy hl hz
   ·cases h
  ·cases h
 ·exact z04j hT ho h
 ·exact zw4 hT ho h
 ·exact zqz hT ho h
 ·exact zuh ho h
 ·split at h
  ·rename_i hv;injection h with h;subst h;exact z06r ho hv
  ·cases h
 ·split at h
  ·rename_i hv;injection h with h;subst h;exact z06s ho hv
  ·cases h
 ·split at h
  ·rename_i k1 k2 k3 a h1 h2 hv;injection h with h;subst h;exact zvz ho (hT.ik h1) (hT.ik h2) hv
  ·cases h
 ·cases h
theorem z017 {s:Sx}:Weak G s ⟨s.n,s.m,s.env,s.st++[none]⟩:=by
 intro E0 η J a w hr
 have look:∀ (c:Nat) (o':Obj'),(s.st++[none])[c]?=some (some o')→s.st[c]?=some (some o'):=fun c o' hc=>by
  rw [List.getElem?_append] at hc
  split at hc
  ·exact hc
  ·cases h:c - s.st.length with
   | zero=>rw [h] at hc;simp at hc
   | succ k=>rw [h] at hc;simp at hc
 exact ⟨η,J,hr.size,hr.m,hr.defers,hr.env,⟨fun c hc=>by have:=hr.ok.len c hc;simp;omega,hr.ok.jlt,fun c o hc=>hr.ok.obj c o (look c o hc),fun c d o1 o2 k hc hd=>hr.ok.dis c d o1 o2 k (look c o1 hc) (look d o2 hd),fun c o k hc=>hr.ok.jd c o k (look c o hc),hr.ok.glob⟩,
  ⟨hr.ex.jj,hr.ex.os,hr.ex.tape,hr.ex.output,hr.ex.size,hr.ex.keep,hr.ex.jn,by have:=hr.ex.len;simp;omega,fun c o k hc=>hr.ex.own c o k (look c o hc),fun c o hl hc=>hr.ex.hdr c o hl (look c o hc)⟩⟩
def evs (tb:Tb) (G:Nat→Option (List PV)) (n:Nat) (st:z0q):List Oper→List (Nat × List XV)→Option (List (Nat × List XV))
 | [],env=>some env
 | o::l,env=>match o.guard,o.dst with
  | none,some t=>if t<n then match ev1 tb G env st o.op with
   | some x=>evs tb G n st l ((t,x)::env)
   | none=>none
   else none
  | _,_=>none
theorem z02x (hT:TbOk P tb) {l2:List Oper}:∀ {l1:List Oper} {env env':List (Nat × List XV)},evs tb G n st l1 env=some env'→OpsT P G ops l2 ⟨n,m,env',st⟩ K→OpsT P G ops (l1++l2) ⟨n,m,env,st⟩ K
 | [],env,env',h,hk=>by injection h with h;subst h;exact hk
 | o::l1,env,env',h,hk=>by
  unfold evs at h
  split at h
  ·rename_i t hg hd
   split at h
   ·rename_i ht
    split at h
    ·rename_i x hx
     exact lt_ hg hd (by simpa using ht) (zy5 hT hx) (z02x hT h hk)
    ·cases h
   ·cases h
  ·cases h
theorem R (hT:TbOk P tb) (k:Nat) (us:List Nat) (env2:List (Nat × List XV)) (h:(evs tb G n st (l.take k) env).map (zfw us)=some env2) (hk:OpsT P G ops (l.drop k) ⟨n,m,env2,st⟩ K):OpsT P G ops l ⟨n,m,env,st⟩ K:=by
 cases he:evs tb G n st (l.take k) env with
 | none=>rw [he] at h;cases h
 | some env' =>
  rw [he] at h
  injection h with h
  subst h
  have:=z02x (m:=m) (ops:=ops) (K:=K) hT he (OpsT.weak (zpe (s:=⟨n,m,env',st⟩) (fun t xs ht=>(zil ht).2)) hk)
  rwa [List.take_append_drop] at this
section
variable {T:List Ent} {W:List (List Bool)} {env0:List (Nat × List XV)}
def okL (ops:Array Oper) (W:List (List Bool)) (n:Nat) (ks:List Nat) (A:List Ent) (e:Ent) (T':List Ent) (o:Oper):Bool :=
 (match e.k with|.light=>true|_=>false)&&o.guard.isNone&&(match o.dst with|some t=>decide (e.t=some t)&&decide (t<n)|none=>false) &&
 zxn W (names ops e.i) e.i A&&zqq W (names ops e.i) e.i T'&&zxo W ks e.i (A++e::T')
end
end
end Go.Proofs.YtimbigpplbbjaaaGreatDoor.Abs

/- Abstract states of the machine: the rules of control, and of operations that only look. -/
import Derived.Test.YtimbigpplbbjaaaGreatDoorAbs1
import Derived.Laws.Entries
import Derived.Laws.Cells
import Derived.Laws.Rows
import Derived.Laws.Strings
import Derived.Laws.Strings2
namespace Go.Proofs.YtimbigpplbbjaaaGreatDoor.Abs
open Go Go.RowKit
set_option linter.unusedVariables false
set_option linter.unusedSimpArgs false
section
variable {P:Program} {G:Nat→Option (List PV)}
def Then (P:Program) (G:Nat→Option (List PV)) (y:Code) (Q:Exit→Sx→Prop):Exit→Sx→Prop
 | .normal,s=>z9w P G y s Q
 | e,s=>Q e s
theorem seq_ {x y:Code} {s:Sx} {Q:Exit→Sx→Prop} (h:z9w P G x s (Then P G y Q)):z9w P G (.seq x y) s Q:=by
 intro E η J a w hr
 refine wp_seq (wp_mono (h E η J a w hr) ?_)
 rintro e a' w' ⟨η',J',s',hq,hr'⟩
 cases e with
 | normal=>exact hq E η' J' a' w' hr'
 | _=>exact ⟨η',J',s',hq,hr'⟩
theorem z09a {s:Sx} {Q:Exit→Sx→Prop} (h:Q .normal s):z9w P G .skip s Q :=
 fun E η J a w hr=>wp_skip ⟨η,J,s,h,hr⟩
theorem ret_ {s:Sx} {Q:Exit→Sx→Prop} (h:Q .ret s):z9w P G .ret s Q :=
 fun E η J a w hr=>wp_ret ⟨η,J,s,h,hr⟩
theorem z09b {id:Nat} {s:Sx} {Q:Exit→Sx→Prop} (h:Q (.exit id) s):z9w P G (.exit id) s Q :=
 fun E η J a w hr=>wp_exit ⟨η,J,s,h,hr⟩
def zlh (id:Nat) (Q:Exit→Sx→Prop):Exit→Sx→Prop
 | .exit id',s=>if id'=id then Q .normal s else Q (.exit id') s
 | e,s=>Q e s
theorem z02q {id:Nat} {c:Code} {s:Sx} {Q:Exit→Sx→Prop} (h:z9w P G c s (zlh id Q)):z9w P G (.block id c) s Q:=by
 intro E η J a w hr
 refine wp_block (wp_mono (h E η J a w hr) ?_)
 rintro e a' w' ⟨η',J',s',hq,hr'⟩
 cases e with
 | exit id' =>
  simp only [Exit.inBlock]
  simp only [zlh] at hq
  split
  ·rename_i h;rw [if_pos h] at hq;exact ⟨η',J',s',hq,hr'⟩
  ·rename_i h;rw [if_neg h] at hq;exact ⟨η',J',s',hq,hr'⟩
 | _=>exact ⟨η',J',s',hq,hr'⟩
def Weak (G:Nat→Option (List PV)) (s s':Sx):Prop:=∀ E η J a w,Rel G E η J s a w→∃ η' J',Rel G E η' J' s' a w
theorem Weak.refl (s:Sx):Weak G s s:=fun E η J a w h=>⟨η,J,h⟩
theorem Weak.trans {s s' s'':Sx} (h:Weak G s s') (h':Weak G s' s''):Weak G s s'':=fun E η J a w hr=>by
 obtain ⟨η',J',hr'⟩:=h E η J a w hr
 exact h' E η' J' a w hr'
theorem z9w.weak {c:Code} {s s':Sx} {Q:Exit→Sx→Prop} (h:Weak G s s') (hc:z9w P G c s' Q):z9w P G c s Q:=fun E η J a w hr=>by
 obtain ⟨η',J',hr'⟩:=h E η J a w hr
 exact hc E η' J' a w hr'
theorem OpsT.weak {ops:Array Oper} {l:List Oper} {s s':Sx} {K:Sx→Prop} (h:Weak G s s') (hc:OpsT P G ops l s' K):OpsT P G ops l s K:=fun E η J a w hr=>by
 obtain ⟨η',J',hr'⟩:=h E η J a w hr
 exact hc E η' J' a w hr'
theorem OpT.weak {o:Oper} {s s':Sx} {K:Sx→Prop} (h:Weak G s s') (hc:OpT P G o s' K):OpT P G o s K:=fun E η J a w hr=>by
 obtain ⟨η',J',hr'⟩:=h E η J a w hr
 exact hc E η' J' a w hr'
theorem zpe {s:Sx} {env:List (Nat × List XV)} (h:∀ t xs,lk env t=some xs→lk s.env t=some xs):Weak G s ⟨s.n,s.m,env,s.st⟩ :=
 fun E η J a w hr=>⟨η,J,hr.size,hr.m,hr.defers,fun t xs ht=>hr.env t xs (h t xs ht),hr.ok,hr.ex⟩
theorem z03w {id:Nat} {l:List Oper} {s:Sx} {Q:Exit→Sx→Prop} (h:OpsT P G l.toArray l s (fun s'=>Q .normal s')):z9w P G (.region id l.toArray false) s Q :=
 fun E η J a w hr=>wp_region_lit (h E η J a w hr _ (fun a' w' η' J' s' hK hr'=>⟨η',J',s',hK,hr'⟩))
theorem z03x {ops:Array Oper} {s:Sx} {K:Sx→Prop} (h:K s):OpsT P G ops [] s K :=
 fun E η J a w hr Q' hQ=>wpList_nil (hQ a w η J s h hr)
theorem zk8 {ops:Array Oper} {o:Oper} {l:List Oper} {s:Sx} {K:Sx→Prop} (hg:o.guard=none) (h:OpT P G o s (fun s'=>OpsT P G ops l s' K)):OpsT P G ops (o::l) s K :=
 fun E η J a w hr Q' hQ=>wpList_plain hg fun K' hK=>h E η J a w hr K' Q' fun a' w' η' J' s' hO hr'=>hK _ _ (hO E η' J' a' w' hr' Q' hQ)
theorem zpf (a:Act) (t:Nat) (v:Value) (h:t<a.tmps.size):(a.put (some t) v).tmps.getD t undef=v:=by
 simp [Act.put,Array.getD_eq_getD_getElem?,h]
theorem zs5 (a:Act) (t u:Nat) (v:Value) (h:t≠u):(a.put (some t) v).tmps.getD u undef=a.tmps.getD u undef:=by
 simp [Act.put,Array.getD_eq_getD_getElem?,Array.getElem?_setIfInBounds_ne h]
theorem Rel.put {E:En} {η:Hd} {J:Nat→Prop} {s:Sx} {a:Act} {w:World} (h:Rel G E η J s a w) {t:Nat} (ht:t<s.n) {x:List XV} {v:Value} (hv:Rs η J w x v) :
  Rel G E η J ⟨s.n,s.m,(t,x)::s.env,s.st⟩ (a.put (some t) v) w where
 size:=by simp [Act.put,h.size]
 m:=h.m
 defers:=h.defers
 env:=by
  intro u xs hu
  simp only [lk] at hu
  split at hu
  ·rename_i e;subst e;injection hu with hu;subst hu
   rw [zpf a t v (by rw [h.size];exact ht)];exact hv
  ·rename_i e;rw [zs5 a t u v e];exact h.env u xs hu
 ok:=h.ok
 ex:=h.ex
theorem Rel.putU {E:En} {η:Hd} {J:Nat→Prop} {s:Sx} {a:Act} {w:World} (h:Rel G E η J s a w) {t:Nat} (ht:t<s.n) (v:Value) :
  Rel G E η J ⟨s.n,s.m,(t,[.u])::s.env,s.st⟩ (a.put (some t) v) w:=h.put ht (x:=[.u]) trivial
def cvB:Value→BV
 | .bool b=>.pv (.bool b)
 | .int k n=>.pv (.int k n)
 | .string s=>.pv (.str s)
 | .slice none 0 0=>.emp
 | v=>.pv (.cst v)
def cv:Value→Option XV
 | .agg cs=>if cs.toList.all Value.oneCell' then some (.agg (cs.toList.map cvB)) else none
 | .tuple _=>none
 | .func f a b=>if a.toList.all Value.oneCell'&&b.toList.all Value.oneCell' then some (.fn f (a.toList.map cvB) (b.toList.map cvB)) else none
 | v=>some (.c (cvB v))
theorem zqh (η:Hd) (J:Nat→Prop) (w:World) (v:Value) (h:v.oneCell'=true):BVr η J w (cvB v) v:=by
 unfold cvB
 split
 ·exact .bool _
 ·exact .int _ _
 ·exact .str _
 ·exact ⟨_,rfl⟩
 ·exact .cst _ h
theorem zig (η:Hd) (J:Nat→Prop) (w:World):∀ (vs:List Value),vs.all Value.oneCell'=true→L2 (BVr η J w) (vs.map cvB) vs
 | [],_=>L2.nil
 | v::vs,h=>by
  simp only [List.all_cons,Bool.and_eq_true] at h
  exact L2.cons (zqh η J w v h.1) (zig η J w vs h.2)
theorem zih (η:Hd) (J:Nat→Prop) (w:World) (v:Value) (x:XV) (h:cv v=some x):XVr η J w x v:=by
 unfold cv at h
 split at h
 ·split at h
  ·rename_i ha;injection h with h;subst h;exact ⟨_,by simp,zig η J w _ ha⟩
  ·cases h
 ·cases h
 ·split at h
  ·rename_i ha;simp only [Bool.and_eq_true] at ha;injection h with h;subst h;exact ⟨_,_,by simp,zig η J w _ ha.1,zig η J w _ ha.2⟩
  ·cases h
 ·rename_i h1 h2 h3
  injection h with h;subst h
  refine zqh η J w v ?_
  cases v <;> first|rfl|exact absurd rfl (h1 _)|exact absurd rfl (h2 _)
def val (G:Nat→Option (List PV)) (env:List (Nat × List XV)):Operand→Option XV
 | .tmp t=>match lk env t with
  | some [x]=>some x
  | _=>none
 | .const v=>cv v
 | .global g=>(G g).map fun cs=>.c (.ep cs)
 | .func f=>some (.fn (.func f) [] [])
theorem Rel.val {E:En} {η:Hd} {J:Nat→Prop} {s:Sx} {a:Act} {w:World} (h:Rel G E η J s a w) {x:Operand} {y:XV} (hx:val G s.env x=some y):XVr η J w y (a.eval x):=by
 cases x with
 | tmp t =>
  simp only [Abs.val] at hx
  split at hx
  ·rename_i z hz;injection hx with hx;subst hx;exact h.env t _ hz
  ·cases hx
 | const v=>exact zih η J w v y hx
 | global g =>
  simp only [Abs.val] at hx
  cases hg:G g with
  | none=>rw [hg] at hx;cases hx
  | some cs =>
   rw [hg] at hx;injection hx with hx;subst hx
   obtain ⟨hj,us,T,fz,hl,hc⟩:=h.ok.glob g cs hg
   exact ⟨g,0,us,hj,rfl,hl,fun j u hu=>by rw [Nat.zero_add];simp only [World.cell?,hc];simpa using hu⟩
 | func f=>injection hx with hx;subst hx;exact ⟨[],[],rfl,L2.nil,L2.nil⟩
theorem z5i {w:World} {J:Nat→Prop} {k:IntKind} {n:Int} {v:Value} (h:Rd w J (.int k n) v):v=.int k n:=by cases h;rfl
theorem zgo {w:World} {J:Nat→Prop} {b:Bool} {v:Value} (h:Rd w J (.bool b) v):v=.bool b:=by cases h;rfl
theorem zhf {w:World} {J:Nat→Prop} {b:ByteArray} {v:Value} (h:Rd w J (.str b) v):v=.string b:=by cases h;rfl
theorem z02r {w:World} {J:Nat→Prop} {b v:Value} (h:Rd w J (.cst b) v):v=b:=by cases h;rfl
def LtT (P:Program) (G:Nat→Option (List PV)) (o:Oper) (s:Sx) (x:List XV):Prop :=
 ∀ E η J a w,Rel G E η J s a w→∃ v,(execOp a.eval o).run P w=.ok (.value v) w∧Rs η J w x v
theorem z06j {o:Oper} {s:Sx} {x:List XV} {t:Nat} {K:Sx→Prop} (hd:o.dst=some t) (ht:t<s.n) (h:LtT P G o s x) (hk:K ⟨s.n,s.m,(t,x)::s.env,s.st⟩):OpT P G o s K:=by
 intro E η J a w hr K' Q' hK
 obtain ⟨v,hrun,hv⟩:=h E η J a w hr
 unfold Oper.wp
 rw [hrun,Oper.upon_value,hd]
 exact hK _ _ η J _ hk (hr.put ht hv)
theorem lt_ {ops:Array Oper} {o:Oper} {l:List Oper} {s:Sx} {x:List XV} {t:Nat} {K:Sx→Prop} (hg:o.guard=none) (hd:o.dst=some t) (ht:decide (t<s.n)=true) (h:LtT P G o s x)
  (hk:OpsT P G ops l ⟨s.n,s.m,(t,x)::s.env,s.st⟩ K):OpsT P G ops (o::l) s K:=zk8 hg (z06j hd (by simpa using ht) h hk)
variable {s:Sx} {o:Oper}
theorem z03y {x:Operand} {y:XV} (ho:o.op=.move x) (hx:val G s.env x=some y):LtT P G o s [y] :=
 fun E η J a w hr=>⟨a.eval x,by simp [execOp,ho],hr.val hx⟩
theorem zxd {x:Operand} {y:XV} (ho:o.op=.assign x) (hx:val G s.env x=some y):LtT P G o s [y] :=
 fun E η J a w hr=>⟨a.eval x,by simp [execOp,ho],hr.val hx⟩
theorem zvs {t:Nat} {ys:List XV} (ho:o.op=.assign (.tmp t)) (hx:lk s.env t=some ys):LtT P G o s ys :=
 fun E η J a w hr=>⟨a.eval (.tmp t),by simp [execOp,ho],hr.env t ys hx⟩
theorem z03z {c x y:Operand} {b:Bool} {r:XV} (ho:o.op=.pick c x y) (hc:val G s.env c=some (.c (.pv (.bool b))))
  (hx:b=true→val G s.env x=some r) (hy:b=false→val G s.env y=some r):LtT P G o s [r]:=by
 intro E η J a w hr
 have h1:a.eval c=.bool b:=zgo (hr.val hc)
 cases b with
 | true=>exact ⟨a.eval x,by simp [execOp,ho,h1,asBool],hr.val (hx rfl)⟩
 | false=>exact ⟨a.eval y,by simp [execOp,ho,h1,asBool],hr.val (hy rfl)⟩
theorem z09c {f:Fn} {first caps:Array Operand} {xs ys:List BV} (ho:o.op=.makeFunc f first caps)
  (h1:∀ E η J a w,Rel G E η J s a w→L2 (BVr η J w) xs (first.map a.eval).toList) (h2:∀ E η J a w,Rel G E η J s a w→L2 (BVr η J w) ys (caps.map a.eval).toList):LtT P G o s [.fn f xs ys] :=
 fun E η J a w hr=>⟨.func f (first.map a.eval) (caps.map a.eval),by simp [execOp,ho,Instr.makeFunc],⟨(first.map a.eval).toList,(caps.map a.eval).toList,rfl,h1 E η J a w hr,h2 E η J a w hr⟩⟩
theorem zvt {t i:Nat} {ys:List XV} {y:XV} (ho:o.op=.extract (.tmp t) i) (hx:lk s.env t=some ys) (h2:2≤ys.length) (hi:ys[i]?=some y):LtT P G o s [y]:=by
 intro E η J a w hr
 have h:=hr.env t ys hx
 match ys,h2,h with
 | x::z::r,_,h =>
  obtain ⟨vs,hv,hl⟩:=h
  obtain ⟨v,hv2,hr2⟩:=hl.get hi
  have he:a.eval (.tmp t)=.tuple vs.toArray:=hv
  refine ⟨v,?_,hr2⟩
  simp [execOp,ho,he,Instr.extract,hv2]
def arith (op:BinOp) (k:IntKind) (x y:Int):Option PV :=
 match op with
 | .add=>some (.int k (k.wrap (x+y)))
 | .sub=>some (.int k (k.wrap (x - y)))
 | .mul=>some (.int k (k.wrap (x*y)))
 | .eql=>some (.bool (x==y))
 | .neq=>some (.bool (x != y))
 | .lss=>some (.bool (decide (x<y)))
 | .leq=>some (.bool (decide (x≤y)))
 | .gtr=>some (.bool (decide (x > y)))
 | .geq=>some (.bool (decide (x≥y)))
 | .and=>some (.int k (k.wrap (BitVec.ofInt k.bits x &&& BitVec.ofInt k.bits y).toNat))
 | .or=>some (.int k (k.wrap (BitVec.ofInt k.bits x ||| BitVec.ofInt k.bits y).toNat))
 | .xor=>some (.int k (k.wrap (BitVec.ofInt k.bits x ^^^ BitVec.ofInt k.bits y).toNat))
 | .andNot=>some (.int k (k.wrap (BitVec.ofInt k.bits x &&& ~~~BitVec.ofInt k.bits y).toNat))
 | _=>none
theorem z06k {op:BinOp} {T U:TypeId} {x y:Operand} {k:IntKind} {m n:Int} {r:PV} (ho:o.op=.binOp op T x y U) (hx:val G s.env x=some (.c (.pv (.int k m)))) (hy:val G s.env y=some (.c (.pv (.int k n))))
  (hr:arith op k m n=some r):LtT P G o s [.c (.pv r)]:=by
 intro E η J a w h
 have h1:=z5i (h.val hx)
 have h2:=z5i (h.val hy)
 cases op <;> simp only [arith,Option.some.injEq,reduceCtorEq] at hr <;> subst hr <;>
  first
   | exact ⟨.bool _,by simp [execOp,ho,h1,h2,eqGuard,binOp,Op.intArith,Op.intCmp,Op.intBits],.bool _⟩
   | exact ⟨.int k _,by simp only [execOp,ho,h1,h2];simp [eqGuard,binOp,Op.intArith,Op.intCmp,Op.intBits],.int _ _⟩
theorem z06l {T U:TypeId} {x y:Operand} {k:IntKind} {m n:Int} (ho:o.op=.binOp .quo T x y U) (hx:val G s.env x=some (.c (.pv (.int k m)))) (hy:val G s.env y=some (.c (.pv (.int k n))))
  (hr:n≠0):LtT P G o s [.c (.pv (.int k (k.wrap (m.tdiv n))))]:=by
 intro E η J a w h
 have h1:=z5i (h.val hx)
 have h2:=z5i (h.val hy)
 exact ⟨.int k _,by simp [execOp,ho,h1,h2,eqGuard,binOp,Op.intDiv,hr],.int _ _⟩
theorem z06m {T U:TypeId} {x y:Operand} {k:IntKind} {m n:Int} (ho:o.op=.binOp .rem T x y U) (hx:val G s.env x=some (.c (.pv (.int k m)))) (hy:val G s.env y=some (.c (.pv (.int k n))))
  (hr:n≠0):LtT P G o s [.c (.pv (.int k (m.tmod n)))]:=by
 intro E η J a w h
 have h1:=z5i (h.val hx)
 have h2:=z5i (h.val hy)
 exact ⟨.int k _,by simp [execOp,ho,h1,h2,eqGuard,binOp,Op.intDiv,hr],.int _ _⟩
theorem z06n {T U:TypeId} {x y:Operand} {k k':IntKind} {m n:Int} (ho:o.op=.binOp .shl T x y U) (hx:val G s.env x=some (.c (.pv (.int k m)))) (hy:val G s.env y=some (.c (.pv (.int k' n))))
  (hr:0≤n):LtT P G o s [.c (.pv (.int k (k.wrap (m*2 ^ min n.toNat k.bits))))]:=by
 intro E η J a w h
 have h1:=z5i (h.val hx)
 have h2:=z5i (h.val hy)
 exact ⟨.int k _,by simp [execOp,ho,h1,h2,eqGuard,binOp,Op.shift,Int.not_lt.2 hr],.int _ _⟩
theorem z06o {T U:TypeId} {x y:Operand} {k k':IntKind} {m n:Int} (ho:o.op=.binOp .shr T x y U) (hx:val G s.env x=some (.c (.pv (.int k m)))) (hy:val G s.env y=some (.c (.pv (.int k' n))))
  (hr:0≤n):LtT P G o s [.c (.pv (.int k (m.fdiv (2 ^ min n.toNat k.bits))))]:=by
 intro E η J a w h
 have h1:=z5i (h.val hx)
 have h2:=z5i (h.val hy)
 exact ⟨.int k _,by simp [execOp,ho,h1,h2,eqGuard,binOp,Op.shift,Int.not_lt.2 hr],.int _ _⟩
theorem z06p {T U:TypeId} {x y:Operand} {m n:ByteArray} (ho:o.op=.binOp .add T x y U) (hx:val G s.env x=some (.c (.pv (.str m)))) (hy:val G s.env y=some (.c (.pv (.str n))))
  (hr:m.size+n.size≤9223372036854775807):LtT P G o s [.c (.pv (.str (m++n)))]:=by
 intro E η J a w h
 have h1:=zhf (h.val hx)
 have h2:=zhf (h.val hy)
 have h3:¬ (((m.size+n.size:Nat):Int) > IntKind.i64.max):=by
  have:IntKind.i64.max=9223372036854775807:=by decide
  omega
 exact ⟨.string (m++n),by simp only [execOp,ho,h1,h2,eqGuard,binOp,Op.stringOp];rw [if_neg h3];simp,.str _⟩
def z040 (op:BinOp) (m n:ByteArray):Option PV :=
 match op with
 | .eql=>some (.bool (m.toList==n.toList))
 | .neq=>some (.bool (!(m.toList==n.toList)))
 | _=>none
theorem z06q {op:BinOp} {T U:TypeId} {x y:Operand} {m n:ByteArray} {r:PV} (ho:o.op=.binOp op T x y U) (hx:val G s.env x=some (.c (.pv (.str m)))) (hy:val G s.env y=some (.c (.pv (.str n))))
  (hr:z040 op m n=some r):LtT P G o s [.c (.pv r)]:=by
 intro E η J a w h
 have h1:=zhf (h.val hx)
 have h2:=zhf (h.val hy)
 cases op <;> simp only [z040,Option.some.injEq,reduceCtorEq] at hr <;> subst hr
 ·exact ⟨.bool _,by simp [execOp,ho,h1,h2,eqGuard,binOp,Op.stringOp],.bool _⟩
 ·exact ⟨.bool _,by simp [execOp,ho,h1,h2,eqGuard,binOp,Op.stringOp],.bool _⟩
theorem z06r {x:Operand} {b:Bool} {T:TypeId} (ho:o.op=.unOp .not T x) (hx:val G s.env x=some (.c (.pv (.bool b)))):LtT P G o s [.c (.pv (.bool (!b)))]:=by
 intro E η J a w h
 have h1:=zgo (h.val hx)
 exact ⟨.bool _,by simp [execOp,ho,h1,Op.unary],.bool _⟩
theorem z06s {x:Operand} {k:IntKind} {n:Int} {T:TypeId} (ho:o.op=.unOp .neg T x) (hx:val G s.env x=some (.c (.pv (.int k n)))):LtT P G o s [.c (.pv (.int k (k.wrap (0 - n))))]:=by
 intro E η J a w h
 have h1:=z5i (h.val hx)
 exact ⟨.int k _,by simp [execOp,ho,h1,Op.unary,Op.intArith],.int _ _⟩
end
end Go.Proofs.YtimbigpplbbjaaaGreatDoor.Abs

/- Abstract states of the machine: ends, calls of function values, calls in drawn regions, arrays at places that are reckoned. -/
import Derived.Test.YtimbigpplbbjaaaGreatDoorAbsQ
namespace Go.Proofs.YtimbigpplbbjaaaGreatDoor.Abs
open Go Go.RowKit
set_option linter.unusedVariables false
set_option linter.unusedSimpArgs false
section
variable {P:Program} {G:Nat→Option (List PV)} {ops:Array Oper} {o:Oper} {l:List Oper} {n m t:Nat} {env env':List (Nat × List XV)} {st st':z0q} {K:Sx→Prop} {Q:Exit→Sx→Prop}
def RW {ρ:Type} (P:Program) (G:Nat→Option (List PV)) (fn:Func) (m:Nat) (res:ρ→List XV) (out:ρ→z0q) (r:ρ):Exit→Sx→Prop
 | .ret,s=>∃ x,ResR P s fn.results.toList x∧Weak G ⟨1,m,[(0,x)],s.st⟩ ⟨1,m,[(0,res r)],out r⟩
 | _,_=>False
theorem RW.only {ρ:Type} {fn:Func} {res:ρ→List XV} {out:ρ→z0q}:zsg (RW P G fn m res out):=fun r e s h=>by cases e <;> first|rfl|exact False.elim h
def RWN {ρ:Type} (P:Program) (G:Nat→Option (List PV)) (fn:Func) (m:Nat) (res:ρ→List XV) (out:ρ→z0q) (r:ρ):Exit→Sx→Prop
 | .ret,s|.normal,s=>∃ s',Weak G s s'∧∃ x,ResR P s' fn.results.toList x∧Weak G ⟨1,m,[(0,x)],s'.st⟩ ⟨1,m,[(0,res r)],out r⟩
 | _,_=>False
theorem wW {ρ:Type} {fn:Func} {res:ρ→List XV} {out:ρ→z0q} {r:ρ}:WkN G (RWN P G fn m res out r):=fun s s' hw ⟨s2,h1,h2⟩=>⟨s2,hw.trans h1,h2⟩
theorem zy3 {ρ:Type} {f:FuncId} {fn:Func} {c:Code} {args:List XV} {st0:z0q} {N:Nat} (res:ρ→List XV) (out:ρ→z0q) (r:ρ) (hf:P.funcs[f]?=some fn) (hb:fn.body=some c) (hN:fn.ntmps=N) (ha:decide (args.length≤N)=true) (he:zmk args 0=env) (hm:st0.length=m)
  (h:z9w P G c ⟨N,m,env,st0⟩ (RWN P G fn m res out r)):zqx P G f args st0 (res r) (out r):=by
 have h1:z9w P G c ⟨N,m,env,st0⟩ (RetQ P fn (fun x s=>Weak G ⟨1,m,[(0,x)],s⟩ ⟨1,m,[(0,res r)],out r⟩)):=fun E η J a w hr =>
  wp_mono (h E η J a w hr) fun e a' w' ⟨η',J',s',hQ,hr'⟩=>by
   have go:(∃ s2,Weak G s' s2∧∃ x,ResR P s2 fn.results.toList x∧Weak G ⟨1,m,[(0,x)],s2.st⟩ ⟨1,m,[(0,res r)],out r⟩)→∃ η'' J'' s2,(∃ x,ResR P s2 fn.results.toList x∧Weak G ⟨1,m,[(0,x)],s2.st⟩ ⟨1,m,[(0,res r)],out r⟩)∧Rel G E η'' J'' s2 a' w':=fun ⟨s2,hw,x,h2,h3⟩=>by
    obtain ⟨η'',J'',h4⟩:=hw E η' J' a' w' hr'
    exact ⟨η'',J'',s2,⟨x,h2,h3⟩,h4⟩
   cases e <;> first|exact go hQ|exact False.elim hQ
 have h0:=z00u (Q:=fun x s=>Weak G ⟨1,m,[(0,x)],s⟩ ⟨1,m,[(0,res r)],out r⟩) hf hb hN ha he hm h1
 intro η J w vs hok hl
 refine (h0 η J w vs hok hl).mono ?_
 rintro e w' ⟨v,η',J',x,st',rfl,hQ,hR,hok',hex⟩
 have hE:∀ t xs,lk [(0,x)] t=some xs→Rs η' J' w' xs ((#[v]:Array Value).getD t undef):=fun t xs ht=>by
  simp only [lk] at ht
  split at ht
  ·rename_i e;subst e;injection ht with ht;subst ht;exact hR
  ·cases ht
 have hrel:Rel G ⟨η,J,w,st0⟩ η' J' ⟨1,m,[(0,x)],st'⟩ ⟨#[v],[]⟩ w':=⟨rfl,hm,rfl,hE,hok',hex⟩
 obtain ⟨η'',J'',h2⟩:=hQ _ _ _ _ _ hrel
 exact ⟨v,η'',J'',_,_,rfl,⟨rfl,rfl⟩,h2.env 0 _ rfl,h2.ok,h2.ex⟩
theorem zqx.toV {f:FuncId} {args res:List XV} (h:zqx P G f args [] res []) (hp:res.all XV.pure=true):zng P G f args res :=
 fun η J w vs ho ha=>(h η J w vs ho ha).mono fun e w' ⟨v,η',J',r,st',he,⟨h1,h2⟩,rest⟩=>⟨v,η',J',r,st',he,⟨h1,h1 ▸ hp,h2⟩,rest⟩
theorem zim {E:En} {η:Hd} {J:Nat→Prop} {s:Sx} {a:Act} {w:World} (hr:Rel G E η J s a w) {g:Operand} {f:FuncId} {first caps:List BV} {xs:Array Operand} {ts:Array TypeId} {args:List XV}
  (ho:o.op=.call { callee:=.value g,args:=xs,argTypes:=ts }) (hg:val G s.env g=some (.fn (.func f) first caps)) (hcall:∀ (args:Array Value) (w:World),(callFunc f args).run P w=.ok (.enter f args) w) (ha:vals G s.env xs.toList=some args) :
  ∃ vs:List Value,(execOp a.eval o).run P w=.ok (.enter f vs.toArray) w∧L2 (XVr η J w) (first.map XV.c++args++caps.map XV.c) vs:=by
 obtain ⟨fs,cs,h1,h2,h3⟩:=hr.val hg
 have lift:∀ (l:List BV) (us:List Value),L2 (BVr η J w) l us→L2 (XVr η J w) (l.map XV.c) us:=fun l us h=>⟨by simpa using h.len,fun i x y hx hy=>by
  rw [List.getElem?_map] at hx
  cases hi:l[i]? with
  | none=>rw [hi] at hx;cases hx
  | some z=>rw [hi] at hx;injection hx with hx;subst hx;exact h.at_ i z y hi hy⟩
 refine ⟨fs++xs.toList.map a.eval++cs,?_,((lift _ _ h2).append (hr.vals ha)).append (lift _ _ h3)⟩
 have e:(fs.toArray++xs.map a.eval++cs.toArray)=(fs++xs.toList.map a.eval++cs).toArray:=by
  apply Array.ext';simp
 simp only [execOp,ho,resolve,h1,Deferred.ofValue,invoke]
 simp only [Sem.run_bind,Sem.run_pure,Result.andThen_ok,hcall,e]
theorem zy4 {g:Operand} {f:FuncId} {first caps:List BV} {xs:Array Operand} {ts:Array TypeId} {args argsF res:List XV}
  (ho:o.op=.call { callee:=.value g,args:=xs,argTypes:=ts }) (hg:val G env g=some (.fn (.func f) first caps)) (hcall:∀ (args:Array Value) (w:World),(callFunc f args).run P w=.ok (.enter f args) w) (ha:vals G env xs.toList=some args)
  (hv:(first.map XV.c++args++caps.map XV.c).map (XV.map nilE)=argsF) (hp:argsF.all XV.pure=true) (hM:zng P G f argsF res):FlT P G o ⟨n,m,env,st⟩ res:=by
 subst hv
 intro E η J a w hr K' Q' hK
 unfold Oper.wp
 obtain ⟨vs,hrun,hl⟩:=zim hr ho hg hcall ha
 rw [hrun,Oper.upon_enter]
 have hok:Ok G ⟨η.f,fun _=>False,η.x⟩ J w []:=⟨fun b hb=>hb.elim,hr.ok.jlt,fun b o hb=>by simp at hb,fun b c o o' k hb=>by simp at hb,fun b o k hb=>by simp at hb,hr.ok.glob⟩
 refine (hM ⟨η.f,fun _=>False,η.x⟩ J w _ hok (zud hp (hl.xmap (fun _ _=>zg6)))).mono ?_
 rintro e w' ⟨v,η',J',r,st',rfl,⟨rfl,h2,rfl⟩,hR,hok',hex⟩
 exact hK v w' J' ⟨hex.jj,hex.os,hex.tape,hex.output,hex.size,fun k hk=>hex.keep k hk zou,fun k hk=>(hex.jn k hk).imp id (fun h=>h.resolve_right zou),hok'.jlt⟩ (z09i h2 hR)
theorem zqy {env env':List (Nat × List XV)} (h:∀ u xs,lk env u=some xs→lk env' u=some xs):∀ {xs:List Operand} {ys:List XV},vals G env xs=some ys→vals G env' xs=some ys
 | [],ys,hx=>hx
 | x::xs,ys,hx=>by
  simp only [vals] at hx ⊢
  cases h1:val G env x with
  | none=>rw [h1] at hx;simp at hx
  | some y =>
   cases h2:vals G env xs with
   | none=>rw [h1,h2] at hx;simp at hx
   | some r=>rw [z7l h h1,zqy h h2];rw [h1,h2] at hx;exact hx
section arrays
variable {α:Type} {e:α→PV} {len:Nat} {D D1:Nat→α} {D2 D3:Nat→Nat→α} {n1 n2 k k1 k2 off b:Nat} {cs cs':List BV}
theorem fit1 {pre post:List PV} (hc:cs=(pre++(ar len (fun i=>[e (D i)])++post)).map BV.pv) (hk:k<len):pre.length+k*1+1≤cs.length:=by
 rw [hc,List.length_map,List.length_append,List.length_append,ziy (sz:=1) (fun _=>rfl)];omega
theorem fit2 {pre post:List PV} (hc:cs=(pre++(ar n1 (fun i=>ar n2 fun j=>[e (D2 i j)])++post)).map BV.pv) (h1:k1<n1) (h2:k2<n2):pre.length+k1*n2+k2*1+1≤cs.length:=by
 have:(k1+1)*n2≤n1*n2:=Nat.mul_le_mul_right n2 (by omega)
 rw [Nat.succ_mul] at this
 rw [hc,List.length_map,List.length_append,List.length_append,ziy (fun i=>zuf i)];omega
theorem put1 {pre post:List PV} {x:α} (hc:cs=(pre++(ar len (fun i=>[e (D i)])++post)).map BV.pv) (hk:k<len) (hD:upd D k x=D1) (hc':(pre++(ar len (fun i=>[e (D1 i)])++post)).map BV.pv=cs'):putAt cs (pre.length+k*1) [.pv (e x)]=cs':=by
 subst hc;subst hD;subst hc'
 exact z076 pre post x hk
theorem put2 {pre post:List PV} {x:α} (hc:cs=(pre++(ar n1 (fun i=>ar n2 fun j=>[e (D2 i j)])++post)).map BV.pv) (h1:k1<n1) (h2:k2<n2) (hD:upd2 D2 k1 k2 x=D3) (hc':(pre++(ar n1 (fun i=>ar n2 fun j=>[e (D3 i j)])++post)).map BV.pv=cs'):putAt cs (pre.length+k1*n2+k2*1) [.pv (e x)]=cs':=by
 subst hc;subst hD;subst hc'
 exact z078 pre post x h1 h2
theorem at1 {pre post:List PV} (hc:cs=(pre++(ar len (fun i=>[e (D i)])++post)).map BV.pv) (hk:k<len):cs[pre.length+k*1]?=some (.pv (e (D k))):=by
 subst hc;exact z075 pre post hk
theorem at2 {pre post:List PV} (hc:cs=(pre++(ar n1 (fun i=>ar n2 fun j=>[e (D2 i j)])++post)).map BV.pv) (h1:k1<n1) (h2:k2<n2):cs[pre.length+k1*n2+k2*1]?=some (.pv (e (D2 k1 k2))):=by
 subst hc;exact z077 pre post h1 h2
end arrays
theorem fnV {f:Fn} {first caps:Array Operand} {xs ys:List BV} (ho:o.op=.makeFunc f first caps) (h1:vals G env first.toList=some (xs.map XV.c)) (h2:vals G env caps.toList=some (ys.map XV.c)):LtT P G o ⟨n,m,env,st⟩ [.fn f xs ys]:=by
 have go:∀ (l:Array Operand) (zs:List BV),vals G env l.toList=some (zs.map XV.c)→∀ E η J a w,Rel G E η J ⟨n,m,env,st⟩ a w→L2 (BVr η J w) zs (l.map a.eval).toList:=fun l zs h E η J a w hr=>by
  have h3:=hr.vals h
  refine ⟨by have:=h3.len;simpa using this,fun i x y hx hy=>?_⟩
  exact h3.at_ i (.c x) y (by rw [List.getElem?_map,hx];rfl) (by simpa using hy)
 exact z09c ho (go first xs h1) (go caps ys h2)
theorem z013 {t:Nat} {ys:List XV} (ho:o.op=.move (.tmp t)) (hx:lk env t=some ys):LtT P G o ⟨n,m,env,st⟩ ys:=by
 intro E η J a w h
 exact ⟨a.tmps.getD t undef,by simp [execOp,ho,Act.eval],h.env t ys hx⟩
theorem z04g {T U V X:TypeId} {x y z u:Operand} {k:IntKind} {a1 a2 a3 a4:Int} (ho:o.op=.call { callee:=.builtin .min,args:=#[x,y,z,u],argTypes:=#[T,U,V,X] }) (hx:val G env x=some (.c (.pv (.int k a1)))) (hy:val G env y=some (.c (.pv (.int k a2)))) (hz:val G env z=some (.c (.pv (.int k a3)))) (hu:val G env u=some (.c (.pv (.int k a4)))) :
  LtT P G o ⟨n,m,env,st⟩ [.c (.pv (.int k (min (min (min a1 a2) a3) a4)))]:=by
 intro E η J a w h
 have h1:=z5i (h.val hx)
 have h2:=z5i (h.val hy)
 have h3:=z5i (h.val hz)
 have h4:=z5i (h.val hu)
 have e:∀ a b:Int,min a b=if b<a then b else a:=fun a b=>by split <;> omega
 refine ⟨.int k (min (min (min a1 a2) a3) a4),?_,.int _ _⟩
 rw [e (min (min a1 a2) a3),e (min a1 a2),e a1]
 simp [execOp,ho,resolve,invoke,builtin,h1,h2,h3,h4,Builtin.min_,Builtin.min2]
theorem z04h {T U V X:TypeId} {x y z u:Operand} {k:IntKind} {a1 a2 a3 a4:Int} (ho:o.op=.call { callee:=.builtin .max,args:=#[x,y,z,u],argTypes:=#[T,U,V,X] }) (hx:val G env x=some (.c (.pv (.int k a1)))) (hy:val G env y=some (.c (.pv (.int k a2)))) (hz:val G env z=some (.c (.pv (.int k a3)))) (hu:val G env u=some (.c (.pv (.int k a4)))) :
  LtT P G o ⟨n,m,env,st⟩ [.c (.pv (.int k (max (max (max a1 a2) a3) a4)))]:=by
 intro E η J a w h
 have h1:=z5i (h.val hx)
 have h2:=z5i (h.val hy)
 have h3:=z5i (h.val hz)
 have h4:=z5i (h.val hu)
 have e:∀ a b:Int,max a b=if b > a then b else a:=fun a b=>by split <;> omega
 refine ⟨.int k (max (max (max a1 a2) a3) a4),?_,.int _ _⟩
 rw [e (max (max a1 a2) a3),e (max a1 a2),e a1]
 simp [execOp,ho,resolve,invoke,builtin,h1,h2,h3,h4,Builtin.max_,Builtin.max2]
def bs (l:List PV):List BV:=l.map BV.pv
def wm (l:List Nat):List (List Bool):=l.map fun m=>(List.range (Nat.log2 m+1)).map fun i=>Nat.testBit m i
end
end Go.Proofs.YtimbigpplbbjaaaGreatDoor.Abs

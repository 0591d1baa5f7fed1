/- Abstract states of the machine: a region that draws its order, walked once in an order of our own. What only looks, and what makes an object, may come up later than in that order. -/
import Derived.Test.YtimbigpplbbjaaaGreatDoorAbsR
import Derived.RegionTactic
namespace Go.Proofs.YtimbigpplbbjaaaGreatDoor.Abs
open Go Go.RowKit
set_option linter.unusedVariables false
set_option linter.unusedSimpArgs false
section
variable {P:Program} {G:Nat→Option (List PV)} {ops:Array Oper}
def waits (W:List (List Bool)) (i d:Nat):Bool:=(W.getD d []).getD i false
def wOk (ops:Array Oper) (W:List (List Bool)):Bool:=(List.range W.length).all fun d=>(List.range (W.getD d []).length).all fun i=>!waits W i d || match ops[d]? with
 | some o=>o.after.toList.any fun e=>Region.binds .any e&&decide (e.on<d)&&(decide (e.on=i) || waits W i e.on)
 | none=>false
def Closed (ops:Array Oper) (lst:Array Bool):Prop:=∀ j oj,ops[j]?=some oj→lst.getD j false=true→∀ e∈oj.after,Region.binds .any e=true→lst.getD e.on false=true
theorem zot {W:List (List Bool)} (hW:wOk ops W=true) {i d:Nat} (h:waits W i d=true):∃ o,ops[d]?=some o∧∃ e∈o.after,Region.binds .any e=true∧e.on<d∧(e.on=i∨waits W i e.on=true):=by
 have hd:d<W.length:=by
  rcases Nat.lt_or_ge d W.length with h1|h1
  ·exact h1
  ·unfold waits at h;rw [List.getD_eq_getElem?_getD,List.getD_eq_getElem?_getD,List.getElem?_eq_none h1] at h;simp at h
 have hi:i<(W.getD d []).length:=by
  rcases Nat.lt_or_ge i (W.getD d []).length with h1|h1
  ·exact h1
  ·unfold waits at h;rw [List.getD_eq_getElem?_getD (l:=W.getD d []),List.getElem?_eq_none h1] at h;simp at h
 have h1:=List.all_eq_true.1 (List.all_eq_true.1 hW d (List.mem_range.2 hd)) i (List.mem_range.2 hi)
 rw [h] at h1
 simp only [Bool.not_true,Bool.false_or] at h1
 split at h1
 ·rename_i o ho
  obtain ⟨e,he,h2⟩:=List.any_eq_true.1 h1
  simp only [Bool.and_eq_true,Bool.or_eq_true,decide_eq_true_eq] at h2
  exact ⟨o,ho,e,by simpa using he,h2.1.1,h2.1.2,h2.2⟩
 ·cases h1
theorem zhj {W:List (List Bool)} (hW:wOk ops W=true) {lst:Array Bool} {i:Nat} (hc:Closed ops lst) (d:Nat):waits W i d=true→lst.getD d false=true→lst.getD i false=true:=by
 induction d using Nat.strongRecOn with
 | _ d ih =>
  intro h hl
  obtain ⟨o,ho,e,he,hb,hlt,h1⟩:=zot hW h
  have hle:=hc d o ho hl e he hb
  rcases h1 with h1|h1
  ·rw [← h1];exact hle
  ·exact ih e.on hlt h1 hle
theorem zgr {W:List (List Bool)} (hW:wOk ops W=true) {lst:Array Bool} {i d:Nat} (hc:Closed ops lst) (h:waits W i d=true) (hd:d∈Region.ready .any ops lst):lst.getD i false=true:=by
 obtain ⟨_,o,ho,hall⟩:=mem_ready.1 hd
 obtain ⟨o',ho',e,he,hb,hlt,h1⟩:=zot hW h
 rw [ho] at ho';injection ho' with ho';subst ho'
 have hle:=hall e he hb
 rcases h1 with h1|h1
 ·rw [← h1];exact hle
 ·exact zhj hW hc e.on h1 hle
theorem Closed.set {lst:Array Bool} {i:Nat} (h:Closed ops lst) (hi:i∈Region.ready .any ops lst):Closed ops (lst.setIfInBounds i true):=by
 obtain ⟨_,oi,hoi,hall⟩:=mem_ready.1 hi
 intro j oj hj hl e he hb
 by_cases hij:i=j
 ·subst hij
  have:oj=oi:=Option.some.inj (hj.symm.trans hoi)
  subst this
  exact getD_set_true (hall e he hb)
 ·rw [getD_set_ne false hij] at hl
  exact getD_set_true (h j oj hj hl e he hb)
inductive Kn where
 | light
 | skip
 | birth (b:Nat) (o:Obj')
 | heavy
structure Ent where
 i:Nat
 t:Option Nat
 x:List XV
 k:Kn
def zhk (e:Ent) (env:List (Nat × List XV)):List (Nat × List XV):=match e.t with
 | some t=>(t,e.x)::env
 | none=>env
def envT (on:Nat→Bool) (env0:List (Nat × List XV)):List Ent→List (Nat × List XV)
 | []=>env0
 | e::T=>if on e.i then zhk e (envT on env0 T) else envT on env0 T
def zaq (on:Nat→Bool):List Ent→z0q→z0q
 | [],st=>st
 | e::T,st=>match e.k with
  | .birth b _=>if on e.i then zaq on T st else (zaq on T st).set b none
  | _=>zaq on T st
def All:Nat→Bool:=fun _=>true
theorem zik {on on':Nat→Bool} {env0:List (Nat × List XV)} {u:Nat}:∀ {T:List Ent},(∀ f∈T,f.t=some u→on f.i=on' f.i)→lk (envT on env0 T) u=lk (envT on' env0 T) u
 | [],_=>rfl
 | e::T,h=>by
  have ih:=zik (env0:=env0) (T:=T) (fun f hf=>h f (List.mem_cons_of_mem _ hf))
  simp only [envT]
  have step:∀ env:List (Nat × List XV),e.t≠some u→lk (zhk e env) u=lk env u:=fun env hne=>by
   unfold zhk
   cases ht:e.t with
   | none=>rfl
   | some t=>simp only [lk];rw [if_neg (fun h=>hne (by rw [ht,h]))]
  by_cases he:e.t=some u
  ·have:=h e List.mem_cons_self he
   rw [this]
   by_cases ho:on' e.i=true
   ·simp only [ho,if_true,zhk,he,lk]
   ·simp only [ho,if_false,Bool.false_eq_true];exact ih
  ·by_cases h1:on e.i=true <;> by_cases h2:on' e.i=true <;> simp only [h1,h2,if_true,if_false,Bool.false_eq_true,step _ he] <;> exact ih
theorem zu7 {on:Nat→Bool} {env0:List (Nat × List XV)} {u:Nat} {e:Ent} {T':List Ent}:∀ {A:List Ent},(∀ f∈A,f.t=some u→on f.i=false)→on e.i=false→(∀ f∈T',f.t=some u→on f.i=true) →
  lk (envT on env0 (A++e::T')) u=lk (envT All env0 T') u
 | [],_,he,h=>by
  simp only [List.nil_append,envT,he,Bool.false_eq_true,if_false]
  exact zik (fun f hf ht=>h f hf ht)
 | f::A,hA,he,h=>by
  have ih:=zu7 (env0:=env0) (A:=A) (fun g hg=>hA g (List.mem_cons_of_mem _ hg)) he h
  simp only [List.cons_append,envT]
  by_cases ho:on f.i=true
  ·have hne:f.t≠some u:=fun ht=>by have:=hA f List.mem_cons_self ht;rw [this] at ho;cases ho
   simp only [ho,if_true]
   unfold zhk
   cases ht:f.t with
   | none=>exact ih
   | some t=>simp only [lk];rw [if_neg (fun h=>hne (by rw [ht,h]))];exact ih
  ·simp only [ho,if_false,Bool.false_eq_true];exact ih
theorem zu8 {on:Nat→Bool} {env0:List (Nat × List XV)} {u:Nat} {e:Ent} {T':List Ent} (ht:e.t=some u) (he:on e.i=true):∀ {A:List Ent},(∀ f∈A,f.t=some u→on f.i=false) →
  lk (envT on env0 (A++e::T')) u=some e.x
 | [],_=>by simp only [List.nil_append,envT,he,if_true,zhk,ht,lk]
 | f::A,hA=>by
  have ih:=zu8 (env0:=env0) (T':=T') ht he (A:=A) (fun g hg=>hA g (List.mem_cons_of_mem _ hg))
  simp only [List.cons_append,envT]
  by_cases ho:on f.i=true
  ·have hne:f.t≠some u:=fun ht=>by have:=hA f List.mem_cons_self ht;rw [this] at ho;cases ho
   simp only [ho,if_true]
   unfold zhk
   cases ht':f.t with
   | none=>exact ih
   | some t=>simp only [lk];rw [if_neg (fun h=>hne (by rw [ht',h]))];exact ih
  ·simp only [ho,if_false,Bool.false_eq_true];exact ih
def names (ops:Array Oper) (i:Nat):List Nat:=match ops[i]? with
 | some o=>o.looksAt ops++o.dst.toList
 | none=>[]
def zxn (W:List (List Bool)) (us:List Nat) (i:Nat) (A:List Ent):Bool:=A.all fun f=>match f.t with
 | some u=>!us.contains u || waits W i f.i
 | none=>true
def zqq (W:List (List Bool)) (us:List Nat) (i:Nat) (T':List Ent):Bool:=T'.all fun f=>match f.t with
 | some u=>!us.contains u || waits W f.i i
 | none=>true
def zxo (W:List (List Bool)) (ks:List Nat) (i:Nat) (T:List Ent):Bool:=T.all fun f=>match f.k with
 | .birth b _=>ks.contains b || waits W f.i i
 | _=>true
def kill:List Nat→z0q→z0q
 | [],st=>st
 | b::ks,st=>(kill ks st).set b none
def zfw (us:List Nat) (env:List (Nat × List XV)):List (Nat × List XV):=match us with
 | []=>[]
 | u::r=>match lk env u with
  | some x=>(u,x)::zfw r env
  | none=>zfw r env
theorem zil {env:List (Nat × List XV)} {t:Nat} {xs:List XV}:∀ {us:List Nat},lk (zfw us env) t=some xs→t∈us∧lk env t=some xs
 | [],h=>by cases h
 | u::r,h=>by
  simp only [zfw] at h
  split at h
  ·rename_i x hx
   simp only [lk] at h
   split at h
   ·rename_i e;subst e;exact ⟨List.mem_cons_self,by rw [hx];exact h⟩
   ·obtain ⟨h1,h2⟩:=zil h;exact ⟨List.mem_cons_of_mem _ h1,h2⟩
  ·obtain ⟨h1,h2⟩:=zil h;exact ⟨List.mem_cons_of_mem _ h1,h2⟩
def onL (lst:Array Bool):Nat→Bool:=fun i=>lst.getD i false
structure Good (ops:Array Oper) (T:List Ent) (lst:Array Bool):Prop where
 size:lst.size=ops.size
 sub:∀ i,onL lst i=true→∃ e∈T,e.i=i
 heavy:∀ e∈T,e.k=.heavy→onL lst e.i=true
 closed:Closed ops lst
def zqr (T:List Ent) (lst:Array Bool) (η:Hd):Prop:=∀ e∈T,∀ b o,e.k=.birth b o→onL lst e.i=false→¬ η.d b
def cnt (ops:Array Oper) (lst:Array Bool):Nat:=(List.range ops.size).countP (onL lst)
def DrT (P:Program) (G:Nat→Option (List PV)) (ops:Array Oper) (n m:Nat) (env0:List (Nat × List XV)) (T:List Ent) (st:z0q) (K:Sx→Prop):Prop :=
 ∀ (lst:Array Bool),Good ops T lst→∀ E η J a w,Rel G E η J ⟨n,m,envT (onL lst) env0 T,zaq (onL lst) T st⟩ a w→zqr T lst η →
  ∀ (Q':Exit→Act→World→Prop) (fuel:Nat),(∀ a' w' η' J' s',K s'→Rel G E η' J' s' a' w'→Q' .normal a' w')→ops.size≤fuel+cnt ops lst→wpAny P .any ops Q' fuel lst a w
theorem zse {lst:Array Bool} {i:Nat} (hs:lst.size=ops.size) (hi:i∈Region.ready .any ops lst):cnt ops (lst.setIfInBounds i true)=cnt ops lst+1∧cnt ops lst<ops.size:=by
 obtain ⟨h0,o,ho,_⟩:=mem_ready.1 hi
 have hlt:i<ops.size:=(Array.getElem?_eq_some_iff.1 ho).1
 have hf:onL lst i=false:=by unfold onL;rw [Array.getD_eq_getD_getElem?] at h0 ⊢;rw [Array.getElem?_eq_getElem (by omega)] at h0 ⊢;exact h0
 have ht:onL (lst.setIfInBounds i true) i=true:=by unfold onL;simp [Array.getD_eq_getD_getElem?,hs,hlt]
 have ho:∀ j,j≠i→onL (lst.setIfInBounds i true) j=onL lst j:=fun j hj=>getD_set_ne false (Ne.symm hj)
 have key:∀ (N:Nat),(List.range N).countP (onL (lst.setIfInBounds i true))=(List.range N).countP (onL lst)+(if i<N then 1 else 0):=by
  intro N
  induction N with
  | zero=>simp
  | succ N ih =>
   rw [List.range_succ,List.countP_append,List.countP_append,ih]
   simp only [List.countP_singleton]
   by_cases e:N=i
   ·subst e;simp [ht,hf]
   ·rw [ho N e]
    by_cases h:i<N
    ·simp only [h,if_true,show i<N+1 by omega];omega
    ·have h2:¬ i<N+1:=by omega
     simp only [h,if_false,h2];omega
 have h1:=key ops.size
 rw [if_pos hlt] at h1
 refine ⟨h1,?_⟩
 have h2:(List.range ops.size).countP (onL (lst.setIfInBounds i true))≤ops.size:=by
  have:=List.countP_le_length (p:=onL (lst.setIfInBounds i true)) (l:=List.range ops.size);simpa using this
 unfold cnt
 omega
theorem zxp {lst:Array Bool} {i:Nat} (hs:lst.size=ops.size) (hlt:i<ops.size) (j:Nat):onL (lst.setIfInBounds i true) j=(onL lst j || decide (j=i)):=by
 by_cases e:j=i
 ·subst e;unfold onL;simp [Array.getD_eq_getD_getElem?,hs,hlt]
 ·unfold onL;rw [getD_set_ne false (Ne.symm e)];simp [e]
def zfx (ops:Array Oper) (o:Oper) (env:List (Nat × List XV)) (on:Bool):Prop:=match o.guard with
 | none=>on=true
 | some (j,want)=>∃ d,(ops[j]?).bind (·.dst)=some d∧((∃ b,lk env d=some [.c (.pv (.bool b))]∧on=(b==want))∨(lk env d=some []∧on=false))
theorem zfx.wanted {o:Oper} {env:List (Nat × List XV)} {on:Bool} (h:zfx ops o env on) {E:En} {η:Hd} {J:Nat→Prop} {n m:Nat} {st:z0q} {a:Act} {w:World} (hr:Rel G E η J ⟨n,m,env,st⟩ a w):Region.wanted o (yielded ops a.tmps)=on:=by
 unfold zfx at h
 unfold Region.wanted
 cases hg:o.guard with
 | none=>rw [hg] at h;exact h.symm
 | some g =>
  obtain ⟨j,want⟩:=g
  rw [hg] at h
  obtain ⟨d,h1,⟨b,h2,h3⟩|⟨h2,h3⟩⟩:=h
  ·have hv:a.tmps.getD d undef=.bool b:=zgo (hr.env d _ h2)
   have hy:yielded ops a.tmps j=some b:=by
    unfold yielded
    rw [h1]
    simp only [Option.bind_some]
    rw [Array.getD_eq_getD_getElem?] at hv
    cases h:a.tmps[d]? with
    | none=>rw [h] at hv;cases hv
    | some v=>rw [h] at hv;simp only [Option.getD_some] at hv;subst hv;rfl
   simp [hy,h3]
  ·have hv:=hr.env d _ h2
   have hy:yielded ops a.tmps j≠some want:=by
    unfold yielded
    rw [h1]
    simp only [Option.bind_some]
    rw [Array.getD_eq_getD_getElem?] at hv
    cases h:a.tmps[d]? with
    | none=>simp
    | some v =>
     rw [h] at hv;simp only [Option.getD_some] at hv
     obtain ⟨vs,rfl,hl⟩:=hv;simp
   subst h3
   simpa using hy
def BirT (P:Program) (G:Nat→Option (List PV)) (o:Oper) (s:Sx) (b:Nat) (ob:Obj') (x:List XV):Prop :=
 ∀ E η J a w,Rel G E η J s a w→∃ v w',(execOp a.eval o).run P w=.ok (.value v) w'∧w'.os=w.os∧w'.tape=w.tape∧w'.output=w.output∧w.heap.size≤w'.heap.size∧(∀ k,k<w.heap.size→w'.heap[k]?=w.heap[k]?) ∧
  (¬ η.d b→(∀ k,Own (η.push b v) b k→w.heap.size≤k)∧ObjR (η.push b v) J w' b ob∧Rs (η.push b v) J w' x v)
structure Grow (J:Nat→Prop) (w:World) (J':Nat→Prop) (w':World):Prop where
 jj:∀ b,J b→J' b
 os:w'.os=w.os
 tape:w'.tape=w.tape
 output:w'.output=w.output
 size:w.heap.size≤w'.heap.size
 keep:∀ k,k<w.heap.size→w'.heap[k]?=w.heap[k]?
 jn:∀ k,J' k→J k∨w.heap.size≤k
 jlt:∀ k,J' k→k<w'.heap.size
theorem Rel.grow {E:En} {η:Hd} {J J':Nat→Prop} {s:Sx} {a:Act} {w w':World} (h:Rel G E η J s a w) (g:Grow J w J' w'):Rel G E η J' s a w':=by
 have hJ:∀ k,J k→w'.heap[k]?=w.heap[k]?:=fun k hk=>g.keep k (h.ok.jlt k hk)
 have hB:∀ x v,BVr η J w x v→BVr η J' w' x v:=fun x v hx=>BVr.mono g.jj hJ (fun _ hb _=>⟨hb,rfl⟩) hx
 refine h.step' hB ⟨h.ok.len,g.jlt,fun b o hb=>?_,h.ok.dis,fun b o k hb hk hj=>?_,h.ok.glob.mono g.jj hJ⟩ ⟨g.jj,g.os,g.tape,g.output,g.size,fun k hk _=>g.keep k hk,fun k hk=>(g.jn k hk).imp id .inl,Nat.le_refl _,fun b o k hb hk=>.inr ⟨b,o,hb,hk,fun h=>h⟩,fun b o _ hb hs=>⟨o,hb,hs,rfl⟩⟩
 ·have hid:o.map id=o:=by cases o <;> simp [Obj'.map]
  have:=(h.ok.obj b o hb).map (f:=id) (η':=η) (J':=J') (w':=w') rfl rfl (fun k hk=>g.keep k ((h.ok.obj b o hb).lt hk)) hB (fun p v hp=>Rd.mono g.jj hJ hp)
  rwa [hid] at this
 ·rcases g.jn k hj with h1|h1
  ·exact h.ok.jd b o k hb hk h1
  ·have:=(h.ok.obj b o hb).lt hk;omega
def FlT (P:Program) (G:Nat→Option (List PV)) (o:Oper) (s:Sx) (x:List XV):Prop :=
 ∀ E η J a w,Rel G E η J s a w→∀ (K':Act→World→Prop) (Q':Exit→Act→World→Prop),(∀ v w' J',Grow J w J' w'→Rs η J' w' x v→K' (a.put o.dst v) w')→o.wp P a w K' Q'
theorem z06v {o:Oper} {s:Sx} {x:List XV} (h:LtT P G o s x):FlT P G o s x:=by
 intro E η J a w hr K' Q' hK
 obtain ⟨v,hrun,hv⟩:=h E η J a w hr
 unfold Oper.wp
 rw [hrun,Oper.upon_value]
 exact hK v w J ⟨fun _ h=>h,rfl,rfl,rfl,Nat.le_refl _,fun _ _=>rfl,fun _ h=>.inl h,hr.ok.jlt⟩ hv
def BirF (P:Program) (G:Nat→Option (List PV)) (o:Oper) (s:Sx) (b:Nat) (ob:Obj') (x:List XV):Prop :=
 ∀ E η J a w,Rel G E η J s a w→∀ (K':Act→World→Prop) (Q':Exit→Act→World→Prop),(∀ v w' J',Grow J w J' w'→(¬ η.d b→∃ h,(∀ k,Own (η.push b h) b k→w.heap.size≤k)∧(∀ k,Own (η.push b h) b k→¬ J' k)∧ObjR (η.push b h) J' w' b ob∧Rs (η.push b h) J' w' x v)→K' (a.put o.dst v) w')→o.wp P a w K' Q'
theorem z09e {o:Oper} {s:Sx} {b:Nat} {ob:Obj'} {x:List XV} (h:BirT P G o s b ob x):BirF P G o s b ob x:=by
 intro E η J a w hr K' Q' hK
 obtain ⟨v,w',hrun,q1,q2,q3,q4,q5,q6⟩:=h E η J a w hr
 unfold Oper.wp
 rw [hrun,Oper.upon_value]
 refine hK v w' J ⟨fun _ h=>h,q1,q2,q3,q4,q5,fun _ h=>.inl h,fun k hk=>Nat.lt_of_lt_of_le (hr.ok.jlt k hk) q4⟩ (fun hd=>?_)
 obtain ⟨h1,h2,h3⟩:=q6 hd
 exact ⟨v,h1,fun k hk hj=>by have:=h1 k hk;have:=hr.ok.jlt k hj;omega,h2,h3⟩
def zll (P:Program) (G:Nat→Option (List PV)) (ops:Array Oper) (W:List (List Bool)) (n m:Nat) (env0:List (Nat × List XV)) (st:z0q) (A:List Ent) (e:Ent) (T':List Ent):Prop :=
 ∃ o t ks,ops[e.i]?=some o∧o.dst=some t∧e.t=some t∧t<n∧zxn W (names ops e.i) e.i A=true∧zqq W (names ops e.i) e.i T'=true∧zxo W ks e.i (A++e::T')=true ∧
  match e.k with
  | .light=>zfx ops o (zfw (names ops e.i) (envT All env0 T')) true∧FlT P G o ⟨n,m,zfw (names ops e.i) (envT All env0 T'),kill ks st⟩ e.x
  | .skip=>zfx ops o (zfw (names ops e.i) (envT All env0 T')) false∧(e.x=[.u]∨e.x=[])
  | .birth b ob=>zfx ops o (zfw (names ops e.i) (envT All env0 T')) true∧BirF P G o ⟨n,m,zfw (names ops e.i) (envT All env0 T'),kill ks st⟩ b ob e.x∧st[b]?=some (some ob)∧(A++T').all (fun f=>match f.k with|.birth c _=>!(c==b)|_=>true)=true
  | .heavy=>False
end
end Go.Proofs.YtimbigpplbbjaaaGreatDoor.Abs

/- Abstract states of the machine: calls. -/
import Derived.Test.YtimbigpplbbjaaaGreatDoorAbs6
namespace Go.Proofs.YtimbigpplbbjaaaGreatDoor.Abs
open Go Go.RowKit
set_option linter.unusedVariables false
set_option linter.unusedSimpArgs false
section
variable {P:Program} {G:Nat→Option (List PV)}
inductive ResR (P:Program) (s:Sx):List ResultVar→List XV→Prop where
 | nil:ResR P s [] []
 | tmp {t:Nat} {x:XV} {rest:List ResultVar} {xs:List XV} (h:lk s.env t=some [x]) (r:ResR P s rest xs):ResR P s (.tmp t::rest) (x::xs)
 | cell {t T b off sz:Nat} {m:Bool} {T0:TypeId} {cs:List BV} {y:BV} {rest:List ResultVar} {xs:List XV} (hT:Ty P T false sz) (h:lk s.env t=some [.c (.box b off)]) (hb:s.st[b]?=some (some (.box m T0 cs))) (hy:cs[off]?=some y) (r:ResR P s rest xs):ResR P s (.cell t T::rest) (.c y::xs)
 | cellA {t T b off sz:Nat} {m:Bool} {T0:TypeId} {cs ys:List BV} {rest:List ResultVar} {xs:List XV} (hT:Ty P T true sz) (h:lk s.env t=some [.c (.box b off)]) (hb:s.st[b]?=some (some (.box m T0 cs))) (hy:(cs.drop off).take sz=ys) (hl:ys.length=sz) (r:ResR P s rest xs):ResR P s (.cell t T::rest) (.agg ys::xs)
def RetQ (P:Program) (fn:Func) (Q:List XV→z0q→Prop):Exit→Sx→Prop
 | .normal,s|.ret,s=>∃ r,ResR P s fn.results.toList r∧Q r s.st
 | _,_=>False
def resF (tmps:Array Value):ResultVar→Sem Value
 | .tmp t=>pure (tmps.getD t undef)
 | .cell a t=>do loadVar t (← asAddr (tmps.getD a undef))
theorem zw0 (fn:Func) (tmps:Array Value):results fn tmps=(do let vs ← fn.results.mapM (resF tmps);pure (if h:vs.size=1 then vs[0] else .tuple vs)):=by
 unfold results
 congr 1
theorem z00t {E:En} {η:Hd} {J:Nat→Prop} {s:Sx} {a:Act} {w:World} (h:Rel G E η J s a w) {rs:List ResultVar} {r:List XV} (hr:ResR P s rs r) :
  ∃ vs:List Value,(rs.mapM (resF a.tmps)).run P w=.ok vs w∧L2 (XVr η J w) r vs:=by
 induction hr with
 | nil=>exact ⟨[],rfl,L2.nil⟩
 | @tmp t x rest xs h1 _ ih =>
  obtain ⟨vs,h3,h4⟩:=ih
  refine ⟨a.tmps.getD t undef::vs,?_,L2.cons (h.env t _ h1) h4⟩
  rw [List.mapM_cons,Sem.run_bind]
  simp only [resF,Sem.run_pure,Result.andThen_ok,Sem.run_bind,h3]
 | @cell t T b off sz m T0 cs y rest xs hT h1 hb hy _ ih =>
  obtain ⟨vs,h3,h4⟩:=ih
  obtain ⟨k,us,q1,q2,q3⟩:=h.box hb
  obtain ⟨_,k',q4,q5⟩:=h.env t _ h1
  rw [q1] at q4;injection q4 with q4;injection q4 with q4;injection q4 with q4;subst q4
  obtain ⟨u,q6,q7⟩:=q3.get hy
  refine ⟨u::vs,?_,L2.cons q7 h4⟩
  rw [List.mapM_cons,Sem.run_bind]
  simp only [resF,Sem.run_bind,q5,asAddr,Sem.run_pure,Result.andThen_ok,zg5 hT (q2 off u q6),h3]
 | @cellA t T b off sz m T0 cs ys rest xs hT h1 hb hy hl _ ih =>
  obtain ⟨vs,h3,h4⟩:=ih
  obtain ⟨k,us,q1,q2,q3⟩:=h.box hb
  obtain ⟨_,k',q4,q5⟩:=h.env t _ h1
  rw [q1] at q4;injection q4 with q4;injection q4 with q4;injection q4 with q4;subst q4
  have q6:=(q3.drop off).take sz
  rw [hy] at q6
  have q7:=zhg hT (w:=w) (k:=k) (off:=off) ((us.drop off).take sz) (by rw [← q6.len,hl]) (fun j u hu=>by
   refine q2 (off+j) u ?_
   rw [List.getElem?_take] at hu
   split at hu
   ·rwa [List.getElem?_drop] at hu
   ·cases hu)
  refine ⟨.agg ((us.drop off).take sz).toArray::vs,?_,L2.cons ⟨_,rfl,q6⟩ h4⟩
  rw [List.mapM_cons,Sem.run_bind]
  simp only [resF,Sem.run_bind,q5,asAddr,Sem.run_pure,Result.andThen_ok,q7,h3]
def zmk (args:List XV) (i:Nat):List (Nat × List XV):=match args with
 | []=>[]
 | x::xs=>(i,[x])::zmk xs (i+1)
theorem zqm:∀ (args:List XV) (i t:Nat) (ys:List XV),lk (zmk args i) t=some ys→∃ x,ys=[x]∧i≤t∧args[t - i]?=some x
 | [],i,t,ys,h=>by cases h
 | x::xs,i,t,ys,h=>by
  simp only [zmk,lk] at h
  split at h
  ·rename_i e;subst e;injection h with h;exact ⟨x,h.symm,Nat.le_refl _,by simp⟩
  ·rename_i e
   obtain ⟨y,h1,h2,h3⟩:=zqm xs (i+1) t ys h
   refine ⟨y,h1,by omega,?_⟩
   rw [show t - i=(t - (i+1))+1 by omega]
   simpa using h3
theorem z00u {f:FuncId} {fn:Func} {c:Code} {args:List XV} {st:z0q} {Q:List XV→z0q→Prop} {env:List (Nat × List XV)} {N m:Nat} (hf:P.funcs[f]?=some fn) (hb:fn.body=some c) (hN:fn.ntmps=N) (ha:(decide (args.length≤N))=true) (he:zmk args 0=env) (hm:st.length=m)
  (h:z9w P G c ⟨N,m,env,st⟩ (RetQ P fn Q)):zpd P G f args st Q:=by
 intro η J w vs hok hl
 subst he;subst hm;subst hN
 have ha:=of_decide_eq_true ha
 refine calls_of_wp hf hb ?_
 have hrel:Rel G ⟨η,J,w,st⟩ η J ⟨fn.ntmps,st.length,zmk args 0,st⟩ { tmps:=vs.toArray++Array.replicate (fn.ntmps - vs.toArray.size) undef,defers:=[] } w:=by
  refine ⟨?_,rfl,rfl,fun t xs ht=>?_,hok,Ex.refl _ _ _ _⟩
  ·have:=hl.len;simp;omega
  ·obtain ⟨x,rfl,_,h2⟩:=zqm args 0 t xs ht
   obtain ⟨v,h3,h4⟩:=hl.get (by simpa using h2)
   have:(vs.toArray++Array.replicate (fn.ntmps - vs.toArray.size) undef).getD t undef=v:=by
    rw [Array.getD_eq_getD_getElem?,Array.getElem?_append_left (by simpa using (List.getElem?_eq_some_iff.1 h3).1)]
    simp [h3]
   rw [this]
   exact h4
 refine wp_mono (h _ η J _ w hrel) ?_
 rintro e a' w' ⟨η',J',s',hq,hr⟩
 have fin:(∃ r,ResR P s' fn.results.toList r∧Q r s'.st)→∃ v,(results fn a'.tmps).run P w'=.ok v w'∧∃ v1 η1 J1 r st1,Ending.returned v=.returned v1∧Q r st1∧Rs η1 J1 w' r v1∧Ok G η1 J1 w' st1∧Ex η J w st η1 J1 w' st1:=by
  rintro ⟨r,h1,h2⟩
  obtain ⟨us,h3,h4⟩:=z00t (P:=P) hr h1
  have hrun:(results fn a'.tmps).run P w'=.ok (if h:us.toArray.size=1 then us.toArray[0] else .tuple us.toArray) w':=by
   rw [zw0,Array.mapM_eq_mapM_toList]
   simp only [Sem.run_bind,Sem.run_map,h3,Result.andThen_ok,Sem.run_pure]
  refine ⟨_,hrun,_,η',J',r,s'.st,rfl,h2,?_,hr.ok,hr.ex⟩
  match r,h4 with
  | [],h4=>rw [h4.unnil];exact ⟨[],rfl,L2.nil⟩
  | [x],h4 =>
   obtain ⟨u,us',rfl,h5,h6⟩:=h4.uncons
   rw [h6.unnil]
   exact h5
  | x::y::r,h4 =>
   have hlen:=h4.len
   have:¬ us.toArray.size=1:=by simp at hlen ⊢;omega
   rw [dif_neg this]
   exact ⟨us,rfl,h4⟩
 cases e with
 | normal=>obtain ⟨v,h1,h2⟩:=fin hq;exact ⟨hr.defers,v,h1,h2⟩
 | ret=>obtain ⟨v,h1,h2⟩:=fin hq;exact ⟨hr.defers,v,h1,h2⟩
 | exit id=>exact hq.elim
 | goto l=>exact hq.elim
 | panic ch=>exact hq.elim
 | outgrown=>exact hq.elim
def pos:List Nat→Nat→Option Nat
 | [],_=>none
 | i::r,b=>if i=b then some 0 else (pos r b).map (· + 1)
theorem zgq:∀ {ids:List Nat} {b j:Nat},pos ids b=some j→ids[j]?=some b
 | [],b,j,h=>by cases h
 | i::r,b,j,h=>by
  simp only [pos] at h
  split at h
  ·rename_i e;injection h with h;subst h;subst e;rfl
  ·cases hp:pos r b with
   | none=>rw [hp] at h;cases h
   | some j'=>rw [hp] at h;injection h with h;subst h;simpa using zgq hp
theorem zu4:∀ {ids:List Nat} {b:Nat},pos ids b=none→b ∉ ids
 | [],b,h=>by simp
 | i::r,b,h=>by
  simp only [pos] at h
  split at h
  ·cases h
  ·rename_i e
   cases hp:pos r b with
   | none=>simp only [List.mem_cons,not_or];exact ⟨fun h=>e h.symm,zu4 hp⟩
   | some j=>rw [hp] at h;cases h
theorem zkb:∀ {ids:List Nat} (_:ids.Nodup) {b j:Nat},ids[j]?=some b→pos ids b=some j
 | [],_,b,j,h=>by simp at h
 | i::r,hn,b,0,h=>by simp at h;subst h;simp [pos]
 | i::r,hn,b,j+1,h=>by
  simp only [List.nodup_cons] at hn
  have h':r[j]?=some b:=by simpa using h
  have hne:¬ i=b:=fun e=>hn.1 (e ▸ List.mem_of_getElem? h')
  simp only [pos,if_neg hne,zkb hn.2 h',Option.map_some]
def re (g:Nat→Option Nat):BV→BV
 | .row b=>match g b with|some j=>.row j|none=>.any
 | .rp b sz i o=>match g b with|some j=>.rp j sz i o|none=>.any
 | .box b o=>match g b with|some j=>.box j o|none=>.any
 | .bx b n=>match g b with|some j=>.bx j n|none=>.any
 | .pr b sz i n=>match g b with|some j=>.pr j sz i n|none=>.any
 | x=>x
theorem zpg {η η':Hd} {J J':Nat→Prop} {w w':World} {g:Nat→Option Nat} (hJ:∀ k,J k→J' k) (hw:∀ k,J k→w'.heap[k]?=w.heap[k]?) (hg:∀ b j,η.d b→g b=some j→η'.d j∧η'.f j=η.f b) {x:BV} {v:Value} (h:BVr η J w x v):BVr η' J' w' (re g x) v:=by
 have one:=h.one
 have plain:x.ref=none→BVr η' J' w' x v:=fun hr=>by
  cases x with
  | any=>exact h
  | pv p=>exact Rd.mono hJ hw h
  | emp=>exact h
  | ep xs=>exact BVr.mono (η:=⟨η.f,fun _=>False,η.x⟩) (η':=η') hJ hw (fun b hb=>hb.elim) (show BVr ⟨η.f,fun _=>False,η.x⟩ J w (.ep xs) v from h)
  | row b=>cases hr
  | rp b sz i o=>cases hr
  | box b o=>cases hr
  | bx b n=>cases hr
  | pr b sz i n=>cases hr
 cases x with
 | row b =>
  show BVr η' J' w' (match g b with|some j=>.row j|none=>.any) v
  cases hgb:g b with
  | none=>exact one
  | some j=>obtain ⟨h1,h2,h3⟩:=h;obtain ⟨h4,h5⟩:=hg b j h1 hgb;exact ⟨h4,h2.trans h5.symm,h3⟩
 | rp b sz i o =>
  show BVr η' J' w' (match g b with|some j=>.rp j sz i o|none=>.any) v
  cases hgb:g b with
  | none=>exact one
  | some j=>obtain ⟨h1,k,n,cap,h2,h3⟩:=h;obtain ⟨h4,h5⟩:=hg b j h1 hgb;exact ⟨h4,k,n,cap,h5.trans h2,h3⟩
 | box b o =>
  show BVr η' J' w' (match g b with|some j=>.box j o|none=>.any) v
  cases hgb:g b with
  | none=>exact one
  | some j=>obtain ⟨h1,k,h2,h3⟩:=h;obtain ⟨h4,h5⟩:=hg b j h1 hgb;exact ⟨h4,k,h5.trans h2,h3⟩
 | pr b sz i n =>
  show BVr η' J' w' (match g b with|some j=>.pr j sz i n|none=>.any) v
  cases hgb:g b with
  | none=>exact one
  | some j =>
   obtain ⟨h1,h2⟩:=h
   obtain ⟨h4,h5⟩:=hg b j h1 hgb
   rcases h2 with h2|⟨k,len,cap,c,h2,h3⟩
   ·exact ⟨h4,.inl h2⟩
   ·exact ⟨h4,.inr ⟨k,len,cap,c,h5.trans h2,h3⟩⟩
 | bx b n =>
  show BVr η' J' w' (match g b with|some j=>.bx j n|none=>.any) v
  cases hgb:g b with
  | none=>exact one
  | some j=>obtain ⟨h1,k,h2,h3⟩:=h;obtain ⟨h4,h5⟩:=hg b j h1 hgb;exact ⟨h4,k,h5.trans h2,h3⟩
 | any=>exact plain rfl
 | pv p=>exact plain rfl
 | emp=>exact plain rfl
 | ep xs=>exact plain rfl
def loc (ids:List Nat):BV→BV:=re (pos ids)
def back (ids:List Nat) (n j:Nat):Nat:=match ids[j]? with|some b=>b|none=>n+(j - ids.length)
def unl (ids:List Nat) (n:Nat):BV→BV:=re (fun j=>some (back ids n j))
def bad (st':z0q) (j:Nat):Bool:=match st'[j]? with|some (some o)=>!o.same|_=>true
def pur (ids:List Nat) (st':z0q):BV→BV:=re (fun b=>match pos ids b with|some j=>if bad st' j then none else some b|none=>some b)
def locO (ids:List Nat) (m:Bool):Obj'→Obj'
 | .box m0 T cs=>.box (m&&m0) T (cs.map (loc ids))
 | .row m0 ch E sz xs=>.row (m&&m0) false E sz xs
 | .tree m0 ch h E sz xs=>.tree (m&&m0) false (h.map fun q=>(q.1,q.2.1,loc ids q.2.2)) E sz xs
def locS (ids ro:List Nat) (st:z0q):z0q:=ids.map fun i=>match st[i]? with
 | some (some o)=>some (locO ids (!ro.contains i) o)
 | _=>none
def z00v:Option Obj'→Obj'→Option Obj'
 | some (.row _ ch0 _ _ _),.row m ch E sz xs=>some (.row m (ch || ch0) E sz xs)
 | some (.tree _ ch0 _ _ _ _),.tree m ch h E sz xs=>some (.tree m (ch || ch0) h E sz xs)
 | some (.row _ ch0 _ _ _),.tree m ch h E sz xs=>some (.tree m (ch || ch0) h E sz xs)
 | some (.tree _ ch0 _ _ _ _),.row m ch E sz xs=>some (.row m (ch || ch0) E sz xs)
 | some (.box _ _ _),.box m T cs=>some (.box m T cs)
 | _,_=>none
def isT:Option Obj'→Bool
 | some (.tree _ _ _ _ _ _)=>true
 | _=>false
def bdr (st':z0q) (o:Option Obj') (j:Nat):Bool:=bad st' j || (isT o || isT ((st'[j]?).getD none))
theorem zxm {st':z0q} {o:Option Obj'} {j:Nat} (h:bdr st' o j=false):bad st' j=false:=by
 unfold bdr at h;simp only [Bool.or_eq_false_iff] at h;exact h.1
theorem z06u {η:Hd} {J:Nat→Prop} {w:World} {b:Nat} {o:Obj'} (h:ObjR η J w b o) (ht:isT (some o)=false):η.x b=[]:=by
 cases o with
 | box=>exact h.1
 | row=>exact h.1
 | tree=>cases ht
def zsc (ids ro:List Nat) (n:Nat) (st':z0q) (b:Nat) (o:Option Obj'):Option Obj':=match pos ids b with
 | some j=>if ro.contains b then (if bdr st' o j then none else o.map (Obj'.map (pur ids st')))
   else match st'[j]? with
    | some (some o')=>z00v o (o'.map (unl ids n))
    | _=>none
 | none=>o.map (Obj'.map (pur ids st'))
def zne (ids ro:List Nat) (n:Nat) (st':z0q):Nat→z0q→z0q
 | _,[]=>[]
 | b,o::r=>zsc ids ro n st' b o::zne ids ro n st' (b+1) r
def zph (ids ro:List Nat) (st st':z0q):z0q:=zne ids ro st.length st' 0 st++(st'.drop ids.length).map (Option.map (Obj'.map (unl ids st.length)))
theorem zlj (ids ro:List Nat) (n:Nat) (st':z0q):∀ (b:Nat) (st:z0q),(zne ids ro n st' b st).length=st.length
 | _,[]=>rfl
 | b,o::r=>by simp [zne,zlj ids ro n st' (b+1) r]
theorem zqn (ids ro:List Nat) (n:Nat) (st':z0q):∀ (b:Nat) (st:z0q) (i:Nat) (o:Option Obj'),st[i]?=some o→(zne ids ro n st' b st)[i]?=some (zsc ids ro n st' (b+i) o)
 | _,[],i,o,h=>by simp at h
 | b,x::r,0,o,h=>by simp at h;subst h;simp [zne]
 | b,x::r,i+1,o,h=>by
  have:=zqn ids ro n st' (b+1) r i o (by simpa using h)
  simp only [zne,List.getElem?_cons_succ,this]
  rw [show b+1+i=b+(i+1) by omega]
theorem zqo (ids ro:List Nat) (st st':z0q):(zph ids ro st st').length=st.length+(st'.length - ids.length):=by simp [zph,zlj]
theorem z00w {ids ro:List Nat} {st st':z0q} {b:Nat} {o:Obj'} (h:(zph ids ro st st')[b]?=some (some o)) :
  (∃ o0,st[b]?=some (some o0)∧o=o0.map (pur ids st')∧(∀ j,pos ids b=some j→ro.contains b=true∧bdr st' (some o0) j=false)) ∨
  (∃ j o',pos ids b=some j∧ro.contains b=false∧st'[j]?=some (some o')∧∃ o0,st[b]?=some o0∧z00v o0 (o'.map (unl ids st.length))=some o) ∨
  (st.length≤b∧∃ o',st'[ids.length+(b - st.length)]?=some (some o')∧o=o'.map (unl ids st.length)):=by
 unfold zph at h
 rw [List.getElem?_append,zlj] at h
 split at h
 ·rename_i hlt
  have hb:st[b]?=some st[b]:=List.getElem?_eq_getElem hlt
  rw [zqn ids ro st.length st' 0 st b _ hb,Nat.zero_add] at h
  injection h with h
  unfold zsc at h
  cases hp:pos ids b with
  | none =>
   rw [hp] at h
   simp only at h
   cases ho:st[b] with
   | none=>rw [ho] at h;cases h
   | some o0=>rw [ho] at h;injection h with h;exact .inl ⟨o0,by rw [hb,ho],h.symm,fun j hj=>by cases hj⟩
  | some j =>
   rw [hp] at h
   simp only at h
   cases hr:ro.contains b with
   | true =>
    simp only [hr,if_true] at h
    cases hbd:bdr st' st[b] j with
    | true=>simp only [hbd,if_true] at h;cases h
    | false =>
     simp only [hbd,Bool.false_eq_true,if_false] at h
     cases ho:st[b] with
     | none=>rw [ho] at h;cases h
     | some o0=>rw [ho] at h;injection h with h;exact .inl ⟨o0,by rw [hb,ho],h.symm,fun j' hj=>by injection hj with hj;subst hj;exact ⟨rfl,by rw [ho] at hbd;exact hbd⟩⟩
   | false =>
    simp only [hr,Bool.false_eq_true,if_false] at h
    cases ho:st'[j]? with
    | none=>rw [ho] at h;cases h
    | some o1 =>
     rw [ho] at h
     cases o1 with
     | none=>cases h
     | some o'=>exact .inr (.inl ⟨j,o',rfl,rfl,ho,st[b],hb,h⟩)
 ·rename_i hlt
  rw [List.getElem?_map,List.getElem?_drop] at h
  cases ho:st'[ids.length+(b - st.length)]? with
  | none=>rw [ho] at h;cases h
  | some o1 =>
   rw [ho] at h
   cases o1 with
   | none=>cases h
   | some o'=>injection h with h;injection h with h;exact .inr (.inr ⟨by omega,o',rfl,h.symm⟩)
end
end Go.Proofs.YtimbigpplbbjaaaGreatDoor.Abs

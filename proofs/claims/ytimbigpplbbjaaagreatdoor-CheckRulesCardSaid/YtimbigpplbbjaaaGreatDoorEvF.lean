/- The evaluator: code along a way, and the rules of a printed proof. -/
import Derived.Test.YtimbigpplbbjaaaGreatDoorEvE
namespace Go.Proofs.YtimbigpplbbjaaaGreatDoor.Abs
open Go Go.RowKit
set_option linter.unusedVariables false
set_option linter.unusedSimpArgs false
inductive Fr where
 | c (x:Code)
 | b (id:Nat)
inductive St where
 | n
 | x (id:Nat)
 | r
inductive Tg where
 | n (s:Sx)
 | x (id:Nat) (s:Sx)
 | r (nf:Bool) (rs:List ResultVar) (m:Nat) (res:List XV) (out:z0q)
structure Out where
 ob:List Prop
 l:List (List Q1)
 r:List (List Q1)
 e:St
 k:List Fr
 s:Sx
 as:List Ans
structure Cx where
 P:Program
 G:Nat→Option (List PV)
 tb:Tb
 tc:Tc
structure CxOk (cx:Cx):Prop where
 tb:TbOk cx.P cx.tb
 tc:TcOk cx.P cx.tc
 mx:cx.P.follows .mixedOrders=true
def pops (id:Nat):List Fr→Option (List Fr)
 | []=>none
 | .c _::k=>pops id k
 | .b j::k=>if id=j then some k else pops id k
def KQ (P:Program) (G:Nat→Option (List PV)) (Q:Exit→Sx→Prop):List Fr→Exit→Sx→Prop
 | []=>Q
 | .c y::k=>Then P G y (KQ P G Q k)
 | .b id::k=>zlh id (KQ P G Q k)
def isLp:Code→Bool
 | .loop _=>true
 | _=>false
def ex (cx:Cx):Nat→List Fr→Sx→List Ans→Option Out
 | 0,k,s,as=>some ⟨[],[],[],.n,k,s,as⟩
 | _+1,[],s,as=>some ⟨[],[],[],.n,[],s,as⟩
 | n+1,.b _::k,s,as=>ex cx n k s as
 | n+1,.c x::k,s,as=>match x with
  | .skip=>ex cx n k s as
  | .seq a b=>ex cx n (.c a::.c b::k) s as
  | .block id y=>if isLp y then some ⟨[],[],[],.n,.c (.block id y)::k,s,as⟩ else ex cx n (.c y::.b id::k) s as
  | .exit id=>match pops id k with
   | some k'=>ex cx n k' s as
   | none=>some ⟨[],[],[],.x id,[],s,as⟩
  | .ret=>some ⟨[],[],[],.r,[],s,as⟩
  | .cond o y z=>match val cx.G s.env o,as with
   | some (.c (.pv (.bool q))),.b v::as=>match ex cx n (.c (if v then y else z)::k) s as with
    | some r=>some ⟨(q=v)::r.ob,r.l,r.r,r.e,r.k,r.s,r.as⟩
    | none=>none
   | _,_=>none
  | .region _ ops draw=>match zyt cx.P cx.tb cx.tc cx.G ops draw s as with
   | some (p,(l,r'),s',as')=>match ex cx n k s' as' with
    | some r=>some ⟨p++r.ob,l++r.l,r'++r.r,r.e,r.k,r.s,r.as⟩
    | none=>none
   | none=>none
  | _=>none
def z057 (P:Program) (G:Nat→Option (List PV)) (Q:Exit→Sx→Prop) (e:St) (k:List Fr) (s:Sx):Prop:=match e with
 | .n=>KQ P G Q k .normal s
 | .x id=>Q (.exit id) s
 | .r=>Q .ret s
theorem zr7 {P:Program} {G:Nat→Option (List PV)} {Q:Exit→Sx→Prop}:∀ {k:List Fr} {s:Sx},Q .ret s→KQ P G Q k .ret s
 | [],s,h=>h
 | .c y::k,s,h=>zr7 (k:=k) h
 | .b id::k,s,h=>zr7 (k:=k) h
theorem zt0 {P:Program} {G:Nat→Option (List PV)} {Q:Exit→Sx→Prop} {id:Nat}:∀ {k:List Fr} {s:Sx},(match pops id k with|some k'=>KQ P G Q k' .normal s|none=>Q (.exit id) s)→KQ P G Q k (.exit id) s
 | [],s,h=>h
 | .c y::k,s,h=>zt0 (k:=k) h
 | .b j::k,s,h=>by
  show (if id=j then KQ P G Q k .normal s else KQ P G Q k (.exit id) s)
  unfold pops at h
  split
  ·rename_i e
   rw [if_pos e] at h
   exact h
  ·rename_i e
   rw [if_neg e] at h
   exact zt0 h
theorem z07q {α:Type} {a b c d:List α} (h:a++c=b++d) (hl:a.length=b.length):a=b∧c=d:=List.append_inj h hl
theorem zps {P:Program} {G:Nat→Option (List PV)} {tb:Tb} {tc:Tc} {ops:Array Oper} {W:List (List Bool)} {n m:Nat}:∀ {ord:List Nat} {T:List Sv} {env0:List (Nat × List XV)} {st:z0q} {as as':List Ans} {ps:List Prop} {l r:List (List Q1)} {s':Sx},
  evD P tb tc G ops W n m ord T env0 st as=some (ps,(l,r),s',as')→l.length=r.length
 | [],T,env0,st,as,as',ps,l,r,s',h=>by
  unfold evD at h
  split at h
  ·split at h
   ·cases h;rfl
   ·cases h
  ·cases h
 | i::ord,T,env0,st,as,as',ps,l,r,s',h=>by
  unfold evD at h
  split at h
  ·split at h
   ·cases h
   ·split at h
    ·split at h
     ·split at h
      ·rename_i hd;cases h;exact zps hd
      ·cases h
     ·cases h
    ·cases h
    ·split at h
     ·rename_i hd;cases h;exact zps hd
     ·cases h
    ·split at h
     ·split at h
      ·split at h
       ·split at h
        ·split at h
         ·rename_i hd;cases h;simpa using zps hd
         ·cases h
        ·cases h
       ·cases h
      ·cases h
     ·cases h
  ·cases h
theorem zz0 {P:Program} {G:Nat→Option (List PV)} {tb:Tb} {tc:Tc} {ops:Array Oper} {draw:Bool} {s s':Sx} {as as':List Ans} {ps:List Prop} {l r:List (List Q1)} (h:zyt P tb tc G ops draw s as=some (ps,(l,r),s',as')):l.length=r.length:=by
 unfold zyt at h
 split at h
 ·split at h
  ·cases h;rfl
  ·cases h
 ·split at h
  ·split at h
   ·exact zps h
   ·cases h
  ·cases h
section
variable {cx:Cx}
theorem zr8 (hc:CxOk cx) {Q:Exit→Sx→Prop}:∀ {n:Nat} {k:List Fr} {s:Sx} {as:List Ans} {o:Out},ex cx n k s as=some o→conj o.ob→o.l=o.r→z057 cx.P cx.G Q o.e o.k o.s→KQ cx.P cx.G Q k .normal s
 | 0,k,s,as,o,h,hp,he,hq=>by cases h;exact hq
 | n+1,[],s,as,o,h,hp,he,hq=>by cases h;exact hq
 | n+1,.b id::k,s,as,o,h,hp,he,hq=>zr8 hc (k:=k) h hp he hq
 | n+1,.c x::k,s,as,o,h,hp,he,hq=>by
  show z9w cx.P cx.G x s (KQ cx.P cx.G Q k)
  unfold ex at h
  split at h
  ·exact z09a (zr8 hc h hp he hq)
  ·exact seq_ (zr8 hc h hp he hq)
  ·split at h
   ·cases h;exact hq
   ·exact z02q (zr8 hc h hp he hq)
  ·rename_i id
   refine z09b (zt0 ?_)
   split at h
   ·exact zr8 hc h hp he hq
   ·cases h
    exact hq
  ·cases h;exact ret_ (zr7 hq)
  ·rename_i c y z
   split at h
   ·rename_i q v as1 hv
    split at h
    ·rename_i r hr
     cases h
     have e:q=v:=hp.1
     subst e
     have ih:=zr8 hc hr hp.2 he hq
     refine z09d hv (fun e=>?_) (fun e=>?_)
     ·rw [e] at ih;exact ih
     ·rw [e] at ih;exact ih
    ·cases h
   ·cases h
  ·rename_i id ops draw
   split at h
   ·rename_i p l r' s' as1 hr
    split at h
    ·rename_i r hr2
     cases h
     obtain ⟨h1,h2⟩:=z9a hp
     obtain ⟨h3,h4⟩:=z07q he (zz0 hr)
     exact z01i hc.tb hc.tc hc.mx hr h1 h3 (zr8 hc hr2 h2 h4 hq)
    ·cases h
   ·cases h
  ·cases h
def resX (tb:Tb) (s:Sx):List ResultVar→Option (List XV)
 | []=>some []
 | .tmp t::r=>match lk s.env t,resX tb s r with
  | some [x],some xs=>some (x::xs)
  | _,_=>none
 | .cell t T::r=>match lk s.env t,as1 tb.tyL T,resX tb s r with
  | some [.c (.box b off)],some (agg,sz),some xs=>match s.st[b]? with
   | some (some (.box _ _ cs))=>match agg with
    | true=>if ((cs.drop off).take sz).length=sz then some (.agg ((cs.drop off).take sz)::xs) else none
    | false=>match cs[off]? with
     | some y=>some (.c y::xs)
     | none=>none
   | _=>none
  | _,_,_=>none
theorem znm {P:Program} {tb:Tb} (hT:TbOk P tb) {s:Sx}:∀ {rs:List ResultVar} {xs:List XV},resX tb s rs=some xs→ResR P s rs xs
 | [],xs,h=>by cases h;exact .nil
 | .tmp t::r,xs,h=>by
  unfold resX at h
  split at h
  ·rename_i h1 h2;cases h;exact .tmp h1 (znm hT h2)
  ·cases h
 | .cell t T::r,xs,h=>by
  unfold resX at h
  split at h
  ·rename_i b off agg sz xs' h1 h2 h3
   split at h
   ·rename_i m T0 cs hb
    split at h
    ·split at h
     ·rename_i hl;cases h;exact .cellA (hT.ty h2) h1 hb rfl hl (znm hT h3)
     ·cases h
    ·split at h
     ·rename_i y hy;cases h;exact .cell (hT.ty h2) h1 hb hy (znm hT h3)
     ·cases h
   ·cases h
  ·cases h
def RetP (P:Program) (G:Nat→Option (List PV)) (rs:List ResultVar) (m:Nat) (res:List XV) (out:z0q) (s:Sx):Prop:=∃ s1,Weak G s s1∧∃ x,ResR P s1 rs x∧Weak G ⟨1,m,[(0,x)],s1.st⟩ ⟨1,m,[(0,res)],out⟩
def QT (cx:Cx):Tg→Exit→Sx→Prop
 | .n t,.normal,s=>Weak cx.G s t
 | .x id t,.exit id',s=>id'=id∧Weak cx.G s t
 | .r nf rs m res out,.normal,s=>nf=true∧RetP cx.P cx.G rs m res out s
 | .r _ rs m res out,.ret,s=>RetP cx.P cx.G rs m res out s
 | _,_,_=>False
def Tg.noN:Tg→Tg
 | .r _ rs m res out=>.r false rs m res out
 | t=>t
theorem wkQT (T:Tg):WkN cx.G (QT cx T):=fun s s' hw hq=>by
 cases T with
 | n t=>exact hw.trans hq
 | x id t=>exact hq
 | r nf rs m res out=>obtain ⟨h1,s1,h2,h3⟩:=hq;exact ⟨h1,s1,hw.trans h2,h3⟩
theorem wkKQ {P:Program} {G:Nat→Option (List PV)} {Q:Exit→Sx→Prop} (hQ:WkN G Q):∀ (k:List Fr),WkN G (KQ P G Q k)
 | []=>hQ
 | .c y::k=>wT
 | .b id::k=>wB (wkKQ hQ k)
theorem zut {P:Program} {G:Nat→Option (List PV)} {Q:Exit→Sx→Prop}:∀ (k1 k2:List Fr),KQ P G Q (k1++k2)=KQ P G (KQ P G Q k2) k1
 | [],k2=>rfl
 | .c y::k1,k2=>by show Then P G y (KQ P G Q (k1++k2))=_;rw [zut k1 k2];rfl
 | .b id::k1,k2=>by show zlh id (KQ P G Q (k1++k2))=_;rw [zut k1 k2];rfl
theorem zji {P:Program} {G:Nat→Option (List PV)} {Q Q':Exit→Sx→Prop} (h:∀ e s,Q e s→Q' e s):∀ (k:List Fr) (e:Exit) (s:Sx),KQ P G Q k e s→KQ P G Q' k e s
 | [],e,s,hq=>h e s hq
 | .c y::k,e,s,hq=>by
  cases e with
  | normal=>exact z9w.mono hq (zji h k)
  | _=>exact zji h k _ s hq
 | .b id::k,e,s,hq=>by
  cases e with
  | exit j =>
   show (if j=id then KQ P G Q' k .normal s else KQ P G Q' k (.exit j) s)
   have hq:(if j=id then KQ P G Q k .normal s else KQ P G Q k (.exit j) s):=hq
   split
   ·rename_i e;rw [if_pos e] at hq;exact zji h k _ s hq
   ·rename_i e;rw [if_neg e] at hq;exact zji h k _ s hq
  | _=>exact zji h k _ s hq
structure Go (cx:Cx) (k:List Fr) (s:Sx) (T:Tg):Prop where
 go:KQ cx.P cx.G (QT cx T) k .normal s
def sx0:Sx:=⟨0,0,[],[]⟩
def bad0:Out:=⟨[False],[],[],.n,[],sx0,[]⟩
def exT (cx:Cx) (n:Nat) (k:List Fr) (s:Sx) (as:List Ans):Out:=match ex cx n k s as with
 | some o=>o
 | none=>bad0
theorem z034 (hc:CxOk cx) {n:Nat} {k:List Fr} {s:Sx} {as:List Ans} {T:Tg} (hp:conj (exT cx n k s as).ob) (he:(exT cx n k s as).l=(exT cx n k s as).r) (hq:z057 cx.P cx.G (QT cx T) (exT cx n k s as).e (exT cx n k s as).k (exT cx n k s as).s):Go cx k s T:=by
 unfold exT at hp he hq
 split at hp
 ·rename_i o h
  rw [h] at he hq
  exact ⟨zr8 hc h hp he hq⟩
 ·exact hp.1.elim
def isN:St→Bool
 | .n=>true
 | _=>false
theorem adv (hc:CxOk cx) (n:Nat) (as:List Ans) {k:List Fr} {s:Sx} {T:Tg} {B:Prop} (pf:B)
  (h:(conj (exT cx n k s as).ob,(exT cx n k s as).l,isN (exT cx n k s as).e)=(B,(exT cx n k s as).r,true)) (hk:Go cx (exT cx n k s as).k (exT cx n k s as).s T):Go cx k s T:=by
 simp only [Prod.mk.injEq] at h
 obtain ⟨h1,h2,h3⟩:=h
 refine z034 hc (by rw [h1];exact pf) h2 ?_
 generalize exT cx n k s as=o at h3 hk
 cases ho:o.e with
 | n=>exact hk.go
 | x id=>rw [ho] at h3;cases h3
 | r=>rw [ho] at h3;cases h3
def endS (tb:Tb) (T:Tg) (e:St) (k:List Fr) (s:Sx):Option (Sx × Sx):=match T,e,k with
 | .n t,.n,[]=>some (fit t s,t)
 | .x id t,.x id',_=>if id'=id then some (fit t s,t) else none
 | .r nf rs m res out,.n,[]=>if nf then match resX tb s rs with
  | some x=>some (fit ⟨1,m,[(0,res)],out⟩ ⟨1,m,[(0,x)],s.st⟩,⟨1,m,[(0,res)],out⟩)
  | none=>none
  else none
 | .r _ rs m res out,.r,_=>match resX tb s rs with
  | some x=>some (fit ⟨1,m,[(0,res)],out⟩ ⟨1,m,[(0,x)],s.st⟩,⟨1,m,[(0,res)],out⟩)
  | none=>none
 | _,_,_=>none
theorem z058 (hc:CxOk cx) {T:Tg} {e:St} {k:List Fr} {s a:Sx} (h:endS cx.tb T e k s=some (a,a)):z057 cx.P cx.G (QT cx T) e k s:=by
 unfold endS at h
 split at h
 ·rename_i t
  injection h with h;simp only [Prod.mk.injEq] at h
  have:=zr6 (G:=cx.G) t s
  rw [h.1,← h.2] at this
  exact this
 ·rename_i id t id'
  split at h
  ·rename_i e
   injection h with h;simp only [Prod.mk.injEq] at h
   have:=zr6 (G:=cx.G) t s
   rw [h.1,← h.2] at this
   exact ⟨e,this⟩
  ·cases h
 ·rename_i nf rs m res out
  split at h
  ·rename_i hn
   split at h
   ·rename_i x hx
    injection h with h;simp only [Prod.mk.injEq] at h
    have:=zr6 (G:=cx.G) ⟨1,m,[(0,res)],out⟩ ⟨1,m,[(0,x)],s.st⟩
    rw [h.1,← h.2] at this
    exact ⟨hn,s,Weak.refl _,x,znm hc.tb hx,this⟩
   ·cases h
  ·cases h
 ·rename_i nf rs m res out
  split at h
  ·rename_i x hx
   injection h with h;simp only [Prod.mk.injEq] at h
   have:=zr6 (G:=cx.G) ⟨1,m,[(0,res)],out⟩ ⟨1,m,[(0,x)],s.st⟩
   rw [h.1,← h.2] at this
   exact ⟨s,Weak.refl _,x,znm hc.tb hx,this⟩
  ·cases h
 ·cases h
def fst' (o:Option (Sx × Sx)):Option Sx:=o.map Prod.fst
def snd' (o:Option (Sx × Sx)):Option Sx:=o.map Prod.snd
theorem fin (hc:CxOk cx) (n:Nat) (as:List Ans) {k:List Fr} {s:Sx} {T:Tg} {B:Prop} (pf:B)
  (h:(conj (exT cx n k s as).ob,(exT cx n k s as).l,(endS cx.tb T (exT cx n k s as).e (exT cx n k s as).k (exT cx n k s as).s).isSome,fst' (endS cx.tb T (exT cx n k s as).e (exT cx n k s as).k (exT cx n k s as).s)) =
   (B,(exT cx n k s as).r,true,snd' (endS cx.tb T (exT cx n k s as).e (exT cx n k s as).k (exT cx n k s as).s))):Go cx k s T:=by
 simp only [Prod.mk.injEq] at h
 obtain ⟨h1,h2,h3,h4⟩:=h
 refine z034 hc (by rw [h1];exact pf) h2 ?_
 generalize hE:endS cx.tb T (exT cx n k s as).e (exT cx n k s as).k (exT cx n k s as).s=E at h3 h4
 cases E with
 | none=>cases h3
 | some p =>
  obtain ⟨a,b⟩:=p
  have e:a=b:=by simpa [fst',snd'] using h4
  subst e
  exact z058 hc hE
theorem jn {α ρ:Type} (hc:CxOk cx) (q:Nat) {k:List Fr} {s:Sx} {T:Tg} {C:Option α} {F:α→Option ρ} {r:ρ} (σ:α→Sx) (h:(C>>=F)=some r)
  (h1:∀ j,C=some j→Go cx (k.take q) s (.n (σ j))) (h2:∀ j,F j=some r→Go cx (k.drop q) (σ j) T):Go cx k s T:=by
 obtain ⟨j,hj,hr⟩:=z07 h
 refine ⟨?_⟩
 rw [← List.take_append_drop q k,zut]
 refine zji (fun e s' hq=>?_) _ _ _ (h1 j hj).go
 cases e with
 | normal=>exact wkKQ (wkQT T) _ _ _ hq (h2 j hr).go
 | _=>exact hq.elim
theorem jr {α ρ ρ':Type} (hc:CxOk cx) (q:Nat) {k:List Fr} {s:Sx} {T:Tg} {C:Option (Sum ρ α)} {F:Sum ρ α→Option ρ'} {r:ρ'} (σ:α→Sx) (R:ρ→Tg) (hR:∀ r,∃ rs m res out,R r=.r false rs m res out) (h:(C>>=F)=some r)
  (h1:∀ o,C=some o→Go cx (k.take q) s (Sum.elim R (fun j=>.n (σ j)) o)) (hr:∀ r',F (.inl r')=some r→T.noN=R r') (h2:∀ j,F (.inr j)=some r→Go cx (k.drop q) (σ j) T):Go cx k s T:=by
 obtain ⟨o,ho,hr'⟩:=z07 h
 refine ⟨?_⟩
 rw [← List.take_append_drop q k,zut]
 refine zji (fun e s' hq=>?_) _ _ _ (h1 o ho).go
 cases o with
 | inl r' =>
  obtain ⟨rs,m,res,out,e1⟩:=hR r'
  have e2:=hr r' hr'
  rw [show Sum.elim R (fun j=>Tg.n (σ j)) (.inl r')=R r' from rfl,e1] at hq
  rw [e1] at e2
  cases e with
  | ret =>
   refine zr7 ?_
   cases T with
   | r nf rs' m' res' out'=>cases e2;exact hq
   | n t=>cases e2
   | x id t=>cases e2
  | normal=>obtain ⟨h1,_⟩:=hq;cases h1
  | _=>exact hq.elim
 | inr j =>
  cases e with
  | normal=>exact wkKQ (wkQT T) _ _ _ hq (h2 j hr').go
  | _=>exact hq.elim
def z09p:List Fr→Code
 | .c (.block _ (.loop c))::_=>c
 | _=>.skip
def z09q:List Fr→Nat
 | .c (.block id (.loop _))::_=>id
 | _=>0
def z035:List Fr→Bool
 | .c (.block _ (.loop _))::_=>true
 | _=>false
def BT {X ρ α:Type} (R:ρ→Tg) (σ:X→Sx) (id:Nat) (τ:α→Sx):Sum X (Sum ρ α)→Tg
 | .inl x=>.n (σ x)
 | .inr (.inl r)=>R r
 | .inr (.inr j)=>.x id (τ j)
def LT {ρ α:Type} (R:ρ→Tg) (id:Nat) (τ:α→Sx):Sum ρ α→Tg
 | .inl r=>R r
 | .inr j=>.x id (τ j)
theorem z059 {X ρ α:Type} {c:Code} {R:ρ→Tg} (hR:∀ r,∃ rs m res out,R r=.r false rs m res out) {σ:X→Sx} {id:Nat} {τ:α→Sx} {body:X→Option (Sum X (Sum ρ α))}
  (hb:∀ x o,body x=some o→Go cx [.c c] (σ x) (BT R σ id τ o)):∀ x o,iter body x=some o→z9w cx.P cx.G (.loop c) (σ x) (QT cx (LT R id τ o)):=by
 refine z012 (fun x o=>z9w cx.P cx.G (.loop c) (σ x) (QT cx (LT R id τ o))) (fun x o' h1 o h2=>?_)
 have tame:Tame (QT cx (LT R id τ o)):=by
  cases o with
  | inl r =>
   obtain ⟨rs,m,res,out,e1⟩:=hR r
   rw [show LT R id τ (.inl r)=R r from rfl,e1]
   exact ⟨fun l s h=>h.elim,fun s h=>h.elim⟩
  | inr j=>exact ⟨fun l s h=>h.elim,fun s h=>h.elim⟩
 refine z09h tame (z9w.mono (hb x o' h1).go fun e s' hq=>?_)
 cases o' with
 | inl x' =>
  cases e with
  | normal=>exact z9w.weak hq h2.2
  | _=>exact hq.elim
 | inr o' =>
  have:o'=o:=h2
  subst this
  cases o' with
  | inl r =>
   obtain ⟨rs,m,res,out,e1⟩:=hR r
   have hq:QT cx (R r) e s':=hq
   rw [e1] at hq
   cases e with
   | ret=>show QT cx (R r) .ret s';rw [e1];exact hq
   | normal=>obtain ⟨h1,_⟩:=hq;cases h1
   | _=>exact hq.elim
  | inr j =>
   cases e with
   | exit id'=>exact hq
   | _=>exact hq.elim
theorem lp {X ρ α β:Type} (hc:CxOk cx) {k:List Fr} {s:Sx} {T:Tg} {F:Sum ρ α→Option β} {r:β} (body:X→Option (Sum X (Sum ρ α))) (σ:X→Sx) (τ:α→Sx) (R:ρ→Tg) (x0:X) (hR:∀ r,∃ rs m res out,R r=.r false rs m res out)
  (h:(iter body x0>>=F)=some r) (hl:(z035 k,fit (σ x0) s)=(true,σ x0)) (hb:∀ x o,body x=some o→Go cx [.c (z09p k)] (σ x) (BT R σ (z09q k) τ o))
  (hr:∀ r',F (.inl r')=some r→T.noN=R r') (h2:∀ j,F (.inr j)=some r→Go cx (k.drop 1) (τ j) T):Go cx k s T:=by
 simp only [Prod.mk.injEq] at hl
 obtain ⟨hl,hf⟩:=hl
 unfold z035 at hl
 split at hl
 ·rename_i id c k'
  obtain ⟨o,ho,hr'⟩:=z07 h
  have h0:Weak cx.G s (σ x0):=by have:=zr6 (G:=cx.G) (σ x0) s;rwa [hf] at this
  have hb':∀ x o,body x=some o→Go cx [.c c] (σ x) (BT R σ id τ o):=hb
  have hl:=z059 hR hb' x0 o ho
  refine ⟨(?_:z9w cx.P cx.G (.block id (.loop c)) s (KQ cx.P cx.G (QT cx T) k'))⟩
  refine z02q (z9w.weak h0 (hl.mono fun e s' hq=>?_))
  cases o with
  | inl r' =>
   obtain ⟨rs,m,res,out,e1⟩:=hR r'
   have e2:=hr r' hr'
   have hq:QT cx (R r') e s':=hq
   rw [e1] at hq e2
   cases e with
   | ret =>
    refine zr7 (k:=k') ?_
    cases T with
    | r nf rs' m' res' out'=>cases e2;exact hq
    | n t=>cases e2
    | x id t=>cases e2
   | normal=>obtain ⟨h1,_⟩:=hq;cases h1
   | _=>exact hq.elim
  | inr j =>
   cases e with
   | exit id' =>
    obtain ⟨rfl,hw⟩:=hq
    show (if id'=id' then _ else _)
    rw [if_pos rfl]
    exact wkKQ (wkQT T) _ _ _ hw (h2 j hr').go
   | _=>exact hq.elim
 ·cases hl
structure Nq where
 t:Nat
 xs:List (List PV)
 s:Sx
def zuu (fn:Func):Code:=match fn.body with
 | some c=>c
 | none=>.skip
theorem fnT {f:FuncId} (fn:Func) {args:List XV} {st0:z0q} {res:List XV} {out:z0q} (hE:Ent_ cx.P f) (hf:cx.P.funcs[f]?=some fn) (hb:(fn.body.isSome,decide (args.length≤fn.ntmps))=(true,true))
  (h:Go cx [.c (zuu fn)] ⟨fn.ntmps,st0.length,zmk args 0,st0⟩ (.r true fn.results.toList st0.length res out)):Cs cx.P cx.G f args st0 res out:=by
 simp only [Prod.mk.injEq] at hb
 obtain ⟨c,hc⟩:=Option.isSome_iff_exists.1 hb.1
 have e:zuu fn=c:=by unfold zuu;rw [hc]
 refine ⟨hE,zy3 (res:=fun _:Unit=>res) (out:=fun _=>out) () hf hc rfl hb.2 rfl rfl ?_⟩
 have h:z9w cx.P cx.G (zuu fn) ⟨fn.ntmps,st0.length,zmk args 0,st0⟩ (QT cx (.r true fn.results.toList st0.length res out)):=h.go
 rw [e] at h
 refine h.mono fun e s hq=>?_
 cases e with
 | normal=>exact hq.2
 | ret=>exact hq
 | _=>exact hq.elim
theorem iteE {α:Type} {b:Bool} {inst:Decidable (b=true)} {x y:Option α} {r:α} (h:@ite _ (b=true) inst x y=some r):(b=true∧x=some r)∨(b=false∧y=some r):=by
 cases b with
 | true=>exact .inl ⟨rfl,by rwa [if_pos rfl] at h⟩
 | false=>exact .inr ⟨rfl,by rwa [if_neg (by simp)] at h⟩
theorem Cs.toV {P:Program} {G:Nat→Option (List PV)} {f:FuncId} {args res:List XV} (h:Cs P G f args [] res []) (hp:res.all XV.pure=true):Cv P G f args res:=⟨h.1,h.2.toV hp⟩
end
end Go.Proofs.YtimbigpplbbjaaaGreatDoor.Abs

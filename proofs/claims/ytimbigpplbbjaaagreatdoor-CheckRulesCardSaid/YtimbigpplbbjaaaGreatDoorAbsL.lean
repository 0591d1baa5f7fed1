/- Abstract states of the machine: the rules of a printed walk, the state written out. -/
import Derived.Test.YtimbigpplbbjaaaGreatDoorAbsK
namespace Go.Proofs.YtimbigpplbbjaaaGreatDoor.Abs
open Go Go.RowKit
set_option linter.unusedVariables false
set_option linter.unusedSimpArgs false
inductive zpk {α:Type}:List α→Nat→α→List α→Prop where
 | z {x y:α} {l:List α}:zpk (x::l) 0 y (y::l)
 | s {x y:α} {l l':List α} {n:Nat} (h:zpk l n y l'):zpk (x::l) (n+1) y (x::l')
inductive Push {α:Type}:List α→α→List α→Prop where
 | z {y:α}:Push [] y [y]
 | s {x y:α} {l l':List α} (h:Push l y l'):Push (x::l) y (x::l')
theorem zpk.eq {α:Type} {l l':List α} {n:Nat} {y:α} (h:zpk l n y l'):l.set n y=l':=by
 induction h with
 | z=>rfl
 | s _ ih=>rw [List.set_cons_succ,ih]
theorem zpk.lt {α:Type} {l l':List α} {n:Nat} {y:α} (h:zpk l n y l'):n<l.length:=by
 induction h with
 | z=>simp
 | s _ ih=>simp;exact ih
theorem Push.eq {α:Type} {l l':List α} {y:α} (h:Push l y l'):l++[y]=l':=by
 induction h with
 | z=>rfl
 | s _ ih=>rw [List.cons_append,ih]
inductive PutL:List BV→Nat→List BV→List BV→Prop where
 | nil {cs:List BV} {off:Nat}:PutL cs off [] cs
 | cons {cs cs1 cs' ys:List BV} {off:Nat} {y:BV} (h:zpk cs off y cs1) (r:PutL cs1 (off+1) ys cs'):PutL cs off (y::ys) cs'
 | all {cs ys:List BV} (h:ys.length=cs.length):PutL cs 0 ys ys
theorem zqw:∀ {ys cs pre:List BV},ys.length=cs.length→putAt (pre++cs) pre.length ys=pre++ys
 | [],cs,pre,h=>by
  have:cs=[]:=List.eq_nil_of_length_eq_zero (by simpa using h.symm)
  subst this;simp [putAt]
 | y::ys,[],pre,h=>by simp at h
 | y::ys,c::cs,pre,h=>by
  have ih:=zqw (ys:=ys) (cs:=cs) (pre:=pre++[y]) (by simpa using h)
  simp only [putAt]
  rw [List.set_append_right _ _ (Nat.le_refl _),Nat.sub_self,List.set_cons_zero]
  simpa using ih
theorem PutL.eq {cs cs' ys:List BV} {off:Nat} (h:PutL cs off ys cs'):putAt cs off ys=cs'∧off+ys.length≤cs.length∨ys=[]∧cs'=cs:=by
 induction h with
 | nil=>exact .inr ⟨rfl,rfl⟩
 | @cons cs cs1 cs' ys off y h r ih =>
  left
  have hl:cs1.length=cs.length:=by rw [← h.eq];simp
  have:=h.lt
  rcases ih with ⟨h1,h2⟩|⟨rfl,rfl⟩
  ·refine ⟨?_,by simp;omega⟩
   rw [putAt,h.eq,h1]
  ·refine ⟨?_,by simp;omega⟩
   rw [putAt,h.eq,putAt]
 | @all cs ys h =>
  left
  exact ⟨by simpa using zqw (pre:=[]) h,by omega⟩
theorem PutL.put {cs cs' ys:List BV} {off sz:Nat} (h:PutL cs off ys cs') (hl:ys.length=sz) (hz:sz≠0):putAt cs off ys=cs'∧off+ys.length≤cs.length:=by
 rcases h.eq with h|⟨rfl,_⟩
 ·exact h
 ·simp at hl;omega
section
variable {P:Program} {G:Nat→Option (List PV)} {ops:Array Oper} {o:Oper} {l:List Oper} {n m t:Nat} {env env':List (Nat × List XV)} {st st':z0q} {K:Sx→Prop} {Q:Exit→Sx→Prop}
theorem retE {α:Type} {x y:α} (h:some x=some y):x=y:=Option.some.inj h
def zkc {X O:Type} (body:X→Option (Sum X O)):Nat→X→Option O
 | 0,_=>none
 | n+1,x=>body x>>=fun o=>match o with
  | .inl x'=>zkc body n x'
  | .inr r=>some r
theorem zln {X O:Type} {body:X→Option (Sum X O)} {r:O}:∀ {n m:Nat} {x:X},zkc body n x=some r→n≤m→zkc body m x=some r
 | 0,_,_,h,_=>by cases h
 | n+1,0,_,_,hm=>by omega
 | n+1,m+1,x,h,hm=>by
  unfold zkc at h ⊢
  cases hb:body x with
  | none=>rw [hb] at h;cases h
  | some o =>
   rw [hb] at h
   cases o with
   | inl x'=>exact zln (n:=n) (m:=m) h (by omega)
   | inr r'=>exact h
open Classical in
noncomputable def unf {O:Type} (f:Nat→Option O):Option O:=if h:∃ r,∃ n,f n=some r then some (Classical.choose h) else none
theorem unfE {O:Type} {f:Nat→Option O} {r:O} (h:unf f=some r):∃ n,f n=some r:=by
 unfold unf at h
 split at h
 ·rename_i hx
  injection h with h
  subst h
  exact Classical.choose_spec hx
 ·cases h
theorem z02v {O:Type} {f:Nat→Option O} {r:O} (n:Nat) (hn:f n=some r) (hu:∀ m s,f m=some s→s=r):unf f=some r:=by
 have hx:∃ r,∃ n,f n=some r:=⟨r,n,hn⟩
 unfold unf
 rw [dif_pos hx]
 obtain ⟨m,hm⟩:=Classical.choose_spec hx
 exact congrArg some (hu m _ hm)
noncomputable def iter {X O:Type} (body:X→Option (Sum X O)) (x:X):Option O:=unf fun n=>zkc body n x
theorem zxw {X O:Type} {body:X→Option (Sum X O)} {x:X} {n m:Nat} {r s:O} (h:zkc body n x=some r) (h':zkc body m x=some s):s=r:=by
 have h1:=zln h (Nat.le_max_left n m)
 have h2:=zln h' (Nat.le_max_right n m)
 rw [h1] at h2;injection h2 with h2;exact h2.symm
theorem zf9 {X O:Type} {body:X→Option (Sum X O)} {x:X} {r:O}:iter body x=some r↔∃ n,zkc body n x=some r :=
 ⟨unfE,fun ⟨n,hn⟩=>z02v n hn fun _ _ hm=>zxw hn hm⟩
theorem zce {X O:Type} (body:X→Option (Sum X O)) (x:X):iter body x=(body x>>=fun o=>match o with
  | .inl x'=>iter body x'
  | .inr r=>some r):=by
 cases hb:body x with
 | none =>
  cases hi:iter body x with
  | none=>rfl
  | some r =>
   obtain ⟨n,hn⟩:=zf9.1 hi
   cases n with
   | zero=>cases hn
   | succ n=>unfold zkc at hn;rw [hb] at hn;cases hn
 | some o =>
  cases o with
  | inr r=>exact zf9.2 ⟨1,by unfold zkc;rw [hb];rfl⟩
  | inl x' =>
   show iter body x=iter body x'
   cases hi:iter body x' with
   | some r =>
    obtain ⟨n,hn⟩:=zf9.1 hi
    exact zf9.2 ⟨n+1,by unfold zkc;rw [hb];exact hn⟩
   | none =>
    cases hj:iter body x with
    | none=>rfl
    | some r =>
     obtain ⟨n,hn⟩:=zf9.1 hj
     cases n with
     | zero=>cases hn
     | succ n =>
      unfold zkc at hn;rw [hb] at hn
      have:=zf9.2 ⟨n,hn⟩
      rw [hi] at this;cases this
theorem z012 {X O:Type} {body:X→Option (Sum X O)} (p:X→O→Prop) (h:∀ x o,body x=some o→∀ r,(match o with|.inl x'=>iter body x'=some r∧p x' r|.inr r'=>r'=r)→p x r):∀ x r,iter body x=some r→p x r:=by
 have key:∀ n x r,zkc body n x=some r→p x r:=by
  intro n
  induction n with
  | zero=>intro x r hr;cases hr
  | succ n ih =>
   intro x r hr
   unfold zkc at hr
   obtain ⟨o,ho,hr⟩:=z07 hr
   cases o with
   | inl x'=>exact h x _ ho r ⟨zf9.2 ⟨n,hr⟩,ih x' r hr⟩
   | inr r'=>exact h x _ ho r (by injection hr)
 intro x r hr
 obtain ⟨n,hn⟩:=zf9.1 hr
 exact key n x r hn
def zsg {ρ:Type} (Qr:ρ→Exit→Sx→Prop):Prop:=∀ r e s,Qr r e s→e=.ret
def z09k (G:Nat→Option (List PV)) {α:Type} (σ:α→Sx) (j:α) (e:Exit) (s:Sx):Prop:=e=.normal∧Weak G s (σ j)
def RV {ρ:Type} (P:Program) (fn:Func) (res:ρ→List XV) (r:ρ):Exit→Sx→Prop
 | .ret,s=>RetQ P fn (fun x _=>x=res r∧x.all XV.pure=true) .ret s
 | _,_=>False
theorem RV.only {ρ:Type} {fn:Func} {res:ρ→List XV}:zsg (RV P fn res):=fun r e s h=>by cases e <;> first|rfl|exact False.elim h
theorem B {x:List XV} {b:Nat} {ob:Obj'} (hg:o.guard=none) (hd:o.dst=some t) (h:BirT P G o ⟨n,m,env,st⟩ b ob x) (ht:decide (t<n)=true) (hb:st.length=b) (hs:Push st (some ob) st') (hk:OpsT P G ops l ⟨n,m,(t,x)::env,st'⟩ K):OpsT P G ops (o::l) ⟨n,m,env,st⟩ K :=
 zk8 hg (z02u hd ht h hb hs.eq hk)
theorem C {x:List XV} (hg:o.guard=none) (hd:o.dst=some t) (h:FlT P G o ⟨n,m,env,st⟩ x) (ht:decide (t<n)=true) (hk:OpsT P G ops l ⟨n,m,(t,x)::env,st⟩ K):OpsT P G ops (o::l) ⟨n,m,env,st⟩ K :=
 zk8 hg (z04b hd ht h hk)
theorem S {T T0:TypeId} {x y:Operand} {b off sz:Nat} {agg:Bool} {v:XV} {cs ys cs':List BV} (hg:o.guard=none) (hd:o.dst=none) (ho:o.op=.store T x y) (hT:Ty P T agg sz) (hz:sz≠0)
  (hx:val G env x=some (.c (.box b off))) (hb:st[b]?=some (some (.box true T0 cs))) (hy:val G env y=some v) (hc:v.cells=some ys) (hl:ys.length=sz)
  (he:PutL cs off ys cs') (hs:zpk st b (some (.box true T0 cs')) st') (hk:OpsT P G ops l ⟨n,m,env,st'⟩ K):OpsT P G ops (o::l) ⟨n,m,env,st⟩ K:=by
 obtain ⟨h1,h2⟩:=he.put hl hz
 exact zk8 hg (zmy (s:=⟨n,m,env,st⟩) hd ho hT hx hb hy hc hl h2 h1 (by rw [hs.eq];exact hk))
end
end Go.Proofs.YtimbigpplbbjaaaGreatDoor.Abs

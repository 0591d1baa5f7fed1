/- Abstract states of the machine: a drawn region, as a printed walk goes over it. -/
import Derived.Test.YtimbigpplbbjaaaGreatDoorAbsJ
namespace Go.Proofs.YtimbigpplbbjaaaGreatDoor.Abs
open Go Go.RowKit
set_option linter.unusedVariables false
set_option linter.unusedSimpArgs false
section
variable {P:Program} {G:Nat→Option (List PV)} {ops:Array Oper} {o:Oper} {n m:Nat} {env0:List (Nat × List XV)} {T:List Ent} {st st':z0q} {K:Sx→Prop}
theorem z7l {env env':List (Nat × List XV)} (h:∀ u xs,lk env u=some xs→lk env' u=some xs) {x:Operand} {y:XV} (hx:val G env x=some y):val G env' x=some y:=by
 cases x with
 | tmp t =>
  simp only [val] at hx ⊢
  cases hl:lk env t with
  | none=>rw [hl] at hx;cases hx
  | some ys=>rw [hl] at hx;rw [h t ys hl];exact hx
 | _=>exact hx
theorem ds {t:Nat} (i:Nat) (hf:T.all (fun f=>!(f.i==i))=true) (h:DrT P G ops n m env0 (⟨i,some t,[.u],.skip⟩::T) st K):DrT P G ops n m env0 T st K :=
 z048 (e:=⟨i,some t,[.u],.skip⟩) hf (fun _ _ h=>by cases h) (fun h=>by cases h) h
theorem ds0 {t:Nat} (i:Nat) (hf:T.all (fun f=>!(f.i==i))=true) (h:DrT P G ops n m env0 (⟨i,some t,[],.skip⟩::T) st K):DrT P G ops n m env0 T st K :=
 z048 (e:=⟨i,some t,[],.skip⟩) hf (fun _ _ h=>by cases h) (fun h=>by cases h) h
theorem db {t:Nat} (i b:Nat) (x:List XV) (ob:Obj') (hf:T.all (fun f=>!(f.i==i))=true) (hb:st.length=b) (hs:st++[some ob]=st') (h:DrT P G ops n m env0 (⟨i,some t,x,.birth b ob⟩::T) st' K):DrT P G ops n m env0 T st K:=by
 subst hb;subst hs
 intro lst hg E η J a w hr hu Q' fuel hK hfu
 have hoff:=zqs hf hg
 have hdb:¬ η.d st.length:=fun hd'=>by
  have:=hr.ok.len _ hd'
  simp only [zcd] at this
  omega
 refine h lst ⟨hg.size,fun j hj=>?_,fun f hf' hfk=>?_,hg.closed⟩ E η J a w ?_ (fun f hf' b o hfk=>?_) Q' fuel hK hfu
 ·obtain ⟨f,hf',h1⟩:=hg.sub j hj;exact ⟨f,List.mem_cons_of_mem _ hf',h1⟩
 ·rcases List.mem_cons.1 hf' with rfl|hf'
  ·cases hfk
  ·exact hg.heavy f hf' hfk
 ·have e1:envT (onL lst) env0 (⟨i,some t,x,.birth st.length ob⟩::T)=envT (onL lst) env0 T:=by simp only [envT,hoff,Bool.false_eq_true,if_false]
  have look:∀ (c:Nat) (o':Obj'),(zaq (onL lst) (⟨i,some t,x,.birth st.length ob⟩::T) (st++[some ob]))[c]?=some (some o')→(zaq (onL lst) T st)[c]?=some (some o'):=fun c o' hc=>by
   rw [zgs] at hc
   split at hc
   ·split at hc
    ·injection hc with hc;cases hc
    ·cases hc
   ·rename_i hany
    simp only [List.any_cons,Bool.or_eq_true,not_or] at hany
    rw [zgs,if_neg (by simpa using hany.2)]
    rcases (znd st ob c o').1 hc with ⟨rfl,_⟩|⟨_,h1⟩
    ·exact absurd (by simp [z8g,hoff]) hany.1
    ·exact h1
  have hl:(zaq (onL lst) T st).length≤(zaq (onL lst) (⟨i,some t,x,.birth st.length ob⟩::T) (st++[some ob])).length:=by rw [zcd,zcd];simp
  rw [e1]
  exact ⟨hr.size,hr.m,hr.defers,hr.env,⟨fun c hc=>Nat.lt_of_lt_of_le (hr.ok.len c hc) hl,hr.ok.jlt,fun c o hc=>hr.ok.obj c o (look c o hc),fun c d o1 o2 k hc hd=>hr.ok.dis c d o1 o2 k (look c o1 hc) (look d o2 hd),fun c o k hc=>hr.ok.jd c o k (look c o hc),hr.ok.glob⟩,
   ⟨hr.ex.jj,hr.ex.os,hr.ex.tape,hr.ex.output,hr.ex.size,hr.ex.keep,hr.ex.jn,Nat.le_trans hr.ex.len hl,fun c o k hc=>hr.ex.own c o k (look c o hc),fun c o hl' hc=>hr.ex.hdr c o hl' (look c o hc)⟩⟩
 ·rcases List.mem_cons.1 hf' with rfl|hf'
  ·injection hfk with h1 h2;subst h1;exact fun _=>hdb
  ·exact hu f hf' b o hfk
theorem ow {W:List (List Bool)} {A T':List Ent} {e:Ent} (h:if forced W T e || zjg e then True else zll P G ops W n m env0 st A e T') (h':Owed P G ops W n m env0 st T (A++[e]) T'):Owed P G ops W n m env0 st T A (e::T'):=⟨h,h'⟩
end
end Go.Proofs.YtimbigpplbbjaaaGreatDoor.Abs

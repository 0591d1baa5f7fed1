/- Abstract states of the machine: the rules of calls, guards, slices that are made. -/
import Derived.Test.YtimbigpplbbjaaaGreatDoorAbs8
namespace Go.Proofs.YtimbigpplbbjaaaGreatDoor.Abs
open Go Go.RowKit
set_option linter.unusedVariables false
set_option linter.unusedSimpArgs false
section
variable {P:Program} {G:Nat→Option (List PV)}
def vals (G:Nat→Option (List PV)) (env:List (Nat × List XV)):List Operand→Option (List XV)
 | []=>some []
 | x::xs=>match val G env x,vals G env xs with
  | some y,some ys=>some (y::ys)
  | _,_=>none
theorem Rel.vals {E:En} {η:Hd} {J:Nat→Prop} {s:Sx} {a:Act} {w:World} (h:Rel G E η J s a w):∀ {xs:List Operand} {ys:List XV},vals G s.env xs=some ys→L2 (XVr η J w) ys (xs.map a.eval)
 | [],ys,hx=>by injection hx with hx;subst hx;exact L2.nil
 | x::xs,ys,hx=>by
  simp only [Abs.vals] at hx
  split at hx
  ·rename_i y ys' h1 h2
   injection hx with hx;subst hx
   exact L2.cons (h.val h1) (h.vals h2)
  ·cases hx
theorem L2.xmap {η η':Hd} {J J':Nat→Prop} {w w':World} {f:BV→BV} (hf:∀ x v,BVr η J w x v→BVr η' J' w' (f x) v) {xs:List XV} {vs:List Value} (h:L2 (XVr η J w) xs vs):L2 (XVr η' J' w') (xs.map (XV.map f)) vs :=
 h.map _ (fun _ _=>XVr.map hf)
def behind (s:Sx) (t:Nat) (ids ro:List Nat) (r:List XV) (st':z0q):Sx :=
 ⟨s.n,s.m,(t,r.map (XV.map (unl ids s.st.length)))::z5b (pur ids st') s.env,zph ids ro s.st st'⟩
theorem zu6 {o:Oper} {s:Sx} {K:Sx→Prop} {t:Nat} {f:FuncId} {ids ro:List Nat} {argsX argsL:List XV} {stL:z0q} {Q:List XV→z0q→Prop} (hd:o.dst=some t) (ht:decide (t<s.n)=true)
  (hrun:∀ E η J a w,Rel G E η J s a w→∃ vs:List Value,(execOp a.eval o).run P w=.ok (.enter f vs.toArray) w∧L2 (XVr η J w) argsX vs)
  (hn:(decide ids.Nodup&&ids.all (fun b=>decide (b<s.st.length)))=true) (hargs:argsX.map (XV.map (loc ids))=argsL) (hst:locS ids ro s.st=stL) (hM:zpd P G f argsL stL Q)
  (hk:∀ r st',Q r st'→K (behind s t ids ro r st')):OpT P G o s K:=by
 intro E η J a w hr K' Q' hK
 simp only [Bool.and_eq_true,decide_eq_true_eq,List.all_eq_true] at hn
 obtain ⟨vs,hrun,hl⟩:=hrun E η J a w hr
 unfold Oper.wp
 rw [hrun,Oper.upon_enter,hd]
 subst hst;subst hargs
 refine (hM (locH η ids) J w vs (z045 ro hr.ok hn.1) (hl.xmap (fun _ _=>zqp))).mono ?_
 rintro e w' ⟨v,η',J',r,st',rfl,hQ,hR,hok,hex⟩
 obtain ⟨h1,h2⟩:=zsd hr hn.1 (fun b hb=>hn.2 b hb) hok hex
 exact hK _ _ _ J' _ (hk r st' hQ) (h1.put (by simpa using ht) (hR.map h2))
theorem z046 {o:Oper} {s:Sx} {K:Sx→Prop} {t:Nat} {f:FuncId} {xs:Array Operand} {ts:Array TypeId} {argsX argsL:List XV} {stL:z0q} {Q:List XV→z0q→Prop} (ids ro:List Nat) (hd:o.dst=some t) (ht:decide (t<s.n)=true)
  (ho:o.op=.call { callee:=.value (.func f),args:=xs,argTypes:=ts }) (hcall:∀ (args:Array Value) (w:World),(callFunc f args).run P w=.ok (.enter f args) w) (ha:vals G s.env xs.toList=some argsX)
  (hn:(decide ids.Nodup&&ids.all (fun b=>decide (b<s.st.length)))=true) (hargs:argsX.map (XV.map (loc ids))=argsL) (hst:locS ids ro s.st=stL) (hM:zpd P G f argsL stL Q)
  (hk:∀ r st',Q r st'→K (behind s t ids ro r st')):OpT P G o s K :=
 zu6 hd ht (fun E η J a w hr=>⟨xs.toList.map a.eval,by
  have e:#[]++xs.map a.eval++#[]=(xs.toList.map a.eval).toArray:=by apply Array.ext';simp
  simp only [execOp,ho,resolve,Act.eval,Deferred.ofValue,invoke,Sem.run_bind,Sem.run_pure,Result.andThen_ok,hcall]
  rw [show #[]++xs.map a.eval++#[]=(xs.toList.map a.eval).toArray from e],hr.vals ha⟩) hn hargs hst hM hk
theorem z09d {c:Operand} {x y:Code} {s:Sx} {Q:Exit→Sx→Prop} {b:Bool} (hc:val G s.env c=some (.c (.pv (.bool b)))) (h1:b=true→z9w P G x s Q) (h2:b=false→z9w P G y s Q):z9w P G (.cond c x y) s Q:=by
 intro E η J a w hr
 exact wp_cond_split (zgo (hr.val hc)) (fun e=>h1 e E η J a w hr) (fun e=>h2 e E η J a w hr)
end
end Go.Proofs.YtimbigpplbbjaaaGreatDoor.Abs

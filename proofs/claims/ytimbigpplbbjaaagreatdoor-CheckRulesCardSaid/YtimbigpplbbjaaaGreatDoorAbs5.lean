/- Abstract states of the machine: operations that make and write. -/
import Derived.Test.YtimbigpplbbjaaaGreatDoorAbs4
namespace Go.Proofs.YtimbigpplbbjaaaGreatDoor.Abs
open Go Go.RowKit
set_option linter.unusedVariables false
set_option linter.unusedSimpArgs false
section
variable {P:Program} {G:Nat→Option (List PV)}
theorem zmj {o:Oper} {s:Sx} {K:Sx→Prop} {t:Nat} (hd:o.dst=some t)
  (h:∀ E η J a w,Rel G E η J s a w→∃ v w' η' J' s' x,(execOp a.eval o).run P w=.ok (.value v) w'∧Rel G E η' J' s' a w'∧t<s'.n∧Rs η' J' w' x v∧K ⟨s'.n,s'.m,(t,x)::s'.env,s'.st⟩):OpT P G o s K:=by
 intro E η J a w hr K' Q' hK
 obtain ⟨v,w',η',J',s',x,hrun,hr',ht,hx,hk⟩:=h E η J a w hr
 unfold Oper.wp
 rw [hrun,Oper.upon_value,hd]
 exact hK _ _ η' J' _ hk (hr'.put ht hx)
theorem zsa {o:Oper} {s:Sx} {K:Sx→Prop} (hd:o.dst=none)
  (h:∀ E η J a w,Rel G E η J s a w→∃ w' η' J' s',(execOp a.eval o).run P w=.ok .skip w'∧Rel G E η' J' s' a w'∧K s'):OpT P G o s K:=by
 intro E η J a w hr K' Q' hK
 obtain ⟨w',η',J',s',hrun,hr',hk⟩:=h E η J a w hr
 unfold Oper.wp
 rw [hrun,Oper.upon_skip,hd]
 exact hK _ _ η' J' s' hk hr'
theorem Rel.box_new {E:En} {η:Hd} {J:Nat→Prop} {s:Sx} {a:Act} {w:World} (h:Rel G E η J s a w) (T:TypeId) {cs:List BV} {us:List Value} (hl:L2 (BVr η J w) cs us) :
  Rel G E (η.push s.st.length (.pointer (some ⟨w.heap.size,0,none⟩))) J ⟨s.n,s.m,s.env,s.st++[some (.box true T cs)]⟩ a (w.alloc (.cells us.toArray T)):=by
 have hw:∀ k,k<w.heap.size→(w.alloc (.cells us.toArray T)).heap[k]?=w.heap[k]?:=fun k hk=>heap_alloc_old w _ k hk
 refine h.new rfl rfl rfl (by simp) hw (fun k hk=>zbo (.inl rfl) k hk) ?_
 refine ⟨Hd.push_x,w.heap.size,us.toArray,Hd.push_n,heap_alloc_new w _,?_⟩
 exact hl.mono (fun x u hx=>BVr.push (fun h'=>by have:=h.ok.len _ h';omega) (fun k hk=>hw k (h.ok.jlt k hk)) hx)
theorem Rel.box_ref {E:En} {η:Hd} {J:Nat→Prop} {s:Sx} {a:Act} {w:World} (h:Rel G E η J s a w) (o:Obj):Rs (η.push s.st.length (.pointer (some ⟨w.heap.size,0,none⟩))) J (w.alloc o) [.c (.box s.st.length 0)] (.pointer (some ⟨w.heap.size,0,none⟩)):=by
 exact ⟨.inr rfl,w.heap.size,Hd.push_n,rfl⟩
def XV.cells:XV→Option (List BV)
 | .c x=>some [x]
 | .agg xs=>some xs
 | _=>none
theorem XVr.cells {η:Hd} {J:Nat→Prop} {w:World} {x:XV} {v:Value} {cs:List BV} (h:XVr η J w x v) (hc:x.cells=some cs):L2 (BVr η J w) cs v.cells.toList:=by
 cases x with
 | u=>cases hc
 | c y =>
  injection hc with hc;subst hc
  have h1:BVr η J w y v:=h
  have:=h1.one
  cases v <;> first|(simp [Value.oneCell'] at this;done)|exact L2.cons h1 L2.nil
 | agg xs=>injection hc with hc;subst hc;obtain ⟨vs,rfl,hl⟩:=h;simpa [Value.cells] using hl
 | fn f a b=>cases hc
theorem z06t {o:Oper} {s:Sx} {K:Sx→Prop} {t:Nat} {T:TypeId} {x:Operand} {y:XV} {cs:List BV} (hd:o.dst=some t) (ht:decide (t<s.n)=true) (ho:o.op=.box T x) (hx:val G s.env x=some y) (hc:y.cells=some cs)
  (hk:K ⟨s.n,s.m,(t,[.c (.box s.st.length 0)])::s.env,s.st++[some (.box true T cs)]⟩):OpT P G o s K:=by
 refine zmj hd fun E η J a w hr=>?_
 have hl:=(hr.val hx).cells hc
 refine ⟨_,_,_,J,_,_,?_,hr.box_new T hl,by simpa using ht,hr.box_ref _,hk⟩
 simp [execOp,ho,Instr.box,newVar,newRow]
theorem z00r {o:Oper} {s:Sx} {K:Sx→Prop} {t:Nat} {T:TypeId} {z:Value} {y:XV} {cs:List BV} (hd:o.dst=some t) (ht:decide (t<s.n)=true) (ho:o.op=.alloc T) (hz:(P.info? T).bind (·.zero)=some z) (hy:cv z=some y) (hc:y.cells=some cs)
  (hk:K ⟨s.n,s.m,(t,[.c (.box s.st.length 0)])::s.env,s.st++[some (.box true T cs)]⟩):OpT P G o s K:=by
 refine zmj hd fun E η J a w hr=>?_
 have hl:=(zih η J w z y hy).cells hc
 refine ⟨_,_,_,J,_,_,?_,hr.box_new T hl,by simpa using ht,hr.box_ref _,hk⟩
 cases hi:P.info? T with
 | none=>rw [hi] at hz;cases hz
 | some i =>
  rw [hi] at hz
  simp only [Option.bind_some] at hz
  simp [execOp,ho,Instr.alloc,newVar,newRow,zeroValue,typeInfo,hi,hz]
def putAt (cs:List BV) (off:Nat):List BV→List BV
 | []=>cs
 | y::ys=>putAt (cs.set off y) (off+1) ys
theorem zu3 {η:Hd} {J:Nat→Prop} {w:World}:∀ {ys:List BV} {us:List Value} {cs:List BV} {vs:List Value} (off:Nat),L2 (BVr η J w) cs vs→L2 (BVr η J w) ys us→off+ys.length≤cs.length →
  L2 (BVr η J w) (putAt cs off ys) (vs.take off++us++vs.drop (off+us.length))
 | [],us,cs,vs,off,h,hy,_=>by
  have:=hy.unnil
  subst this
  simpa [putAt] using h
 | y::ys,us,cs,vs,off,h,hy,hl=>by
  obtain ⟨u,us',rfl,hu,hr⟩:=hy.uncons
  simp only [List.length_cons] at hl
  have:=zu3 (off+1) (h.set off hu) hr (by simp;omega)
  rw [list_seg_step vs off u us' (by rw [← h.len,← hr.len];omega)] at this
  simpa [putAt] using this
theorem zhi (w:World) (k:Nat) (cs vs:Array Value) (T:TypeId) (h:w.heap[k]?=some (.cells vs T (0,0))):(w.setRow k cs).heap[k]?=some (.cells cs T (0,0)):=by
 simp [World.setRow,Array.getElem?_modify,h]
theorem z8i (w:World) (k j:Nat) (cs:Array Value) (h:j≠k):(w.setRow k cs).heap[j]?=w.heap[j]?:=by
 simp [World.setRow,Array.getElem?_modify];omega
theorem zmy {o:Oper} {s:Sx} {K:Sx→Prop} {T T0:TypeId} {x y:Operand} {b off sz:Nat} {agg:Bool} {v:XV} {cs ys cs':List BV} (hd:o.dst=none) (ho:o.op=.store T x y) (hT:Ty P T agg sz)
  (hx:val G s.env x=some (.c (.box b off))) (hb:s.st[b]?=some (some (.box true T0 cs))) (hy:val G s.env y=some v) (hc:v.cells=some ys) (hl:ys.length=sz) (hfit:off+ys.length≤cs.length)
  (he:putAt cs off ys=cs') (hk:K ⟨s.n,s.m,s.env,s.st.set b (some (.box true T0 cs'))⟩):OpT P G o s K:=by
 refine zsa hd fun E η J a w hr=>?_
 obtain ⟨hx0,k,vs,h1,h2,h3⟩:=hr.ok.obj b _ hb
 obtain ⟨_,k',h4,h5⟩:=hr.val hx
 rw [h1] at h4;injection h4 with h4;injection h4 with h4;injection h4 with h4;subst h4
 have hv:=(hr.val hy).cells hc
 have hone:∀ u∈(a.eval y).cells.toList,u.oneCell'=true:=fun u hu=>by
  obtain ⟨i,hi⟩:=List.mem_iff_getElem?.1 hu
  have hlt:i<ys.length:=by rw [hv.len];exact (List.getElem?_eq_some_iff.1 hi).1
  exact (hv.at_ i _ u (List.getElem?_eq_getElem hlt) hi).one
 have hsz:(a.eval y).cells.size=sz:=by rw [← hl,hv.len];simp
 have hst:=run_storeCells_at P k off T0 (a.eval y).cells.toList 0 vs w h2 (by rw [← hv.len];have:=h3.len;simp at this;omega) hone
 simp only [Nat.add_zero] at hst
 have hp:=zu3 off h3 hv hfit
 generalize hnc:(vs.toList.take off++(a.eval y).cells.toList++vs.toList.drop (off+(a.eval y).cells.toList.length))=nl at hst hp
 have hjk:¬ J k:=hr.ok.jd b _ k hb (.inl h1)
 have hJw:∀ j,J j→(w.setRow k nl.toArray).heap[j]?=w.heap[j]?:=fun j hj=>z8i w k j _ (fun e=>hjk (e ▸ hj))
 have hf:∀ x v,BVr η J w x v→BVr η J (w.setRow k nl.toArray) (id x) v:=fun x v hx=>BVr.mono (fun _ h=>h) hJw (fun _ h _=>⟨h,rfl⟩) hx
 refine ⟨w.setRow k nl.toArray,η,J,⟨s.n,s.m,z5b id s.env,(z99 id s.st).set b (some (.box true T0 cs'))⟩,?_,?_,by rw [z7x,zf7];exact hk⟩
 ·simp only [execOp,ho,h5,Instr.storeAt,Instr.sureAddr,storeVar]
  simp [z5c hT,hsz,hst]
 ·refine hr.turn (o:=.box true T0 cs) ⟨hb,rfl,fun _ h=>h,fun _ _=>rfl,fun _ _=>rfl,fun _ h=>h,rfl,rfl,rfl,by simp,fun j hj hn=>z8i w k j _ (fun e=>hn (e ▸ .inl h1)),hf,fun o' ho'=>?_,fun o' j ho' hj=>⟨.inr hj,fun hJ=>hr.ok.jd b _ j hb hj hJ⟩,fun j hj=>.inl hj⟩
  injection ho' with ho'
  subst ho'
  subst he
  exact ⟨⟨hx0,k,nl.toArray,h1,zhi w k _ vs T0 h2,by simpa using hp.mono hf⟩,rfl,fun _=>⟨rfl,rfl⟩⟩
def BV.toPV:BV→Option PV
 | .pv p=>some p
 | .emp=>some (.sl [])
 | _=>none
def zje:List BV→Option (List PV)
 | []=>some []
 | x::xs=>match x.toPV,zje xs with
  | some p,some ps=>some (p::ps)
  | _,_=>none
theorem zgp {η:Hd} {J:Nat→Prop} {w:World}:∀ {xs:List BV} {ps:List PV} {us:List Value},zje xs=some ps→L2 (BVr η J w) xs us→L2 (Rd w J) ps us
 | [],ps,us,h,hl=>by
  injection h with h;subst h
  rw [hl.unnil];exact L2.nil
 | x::xs,ps,us,h,hl=>by
  obtain ⟨u,us',rfl,hu,hr⟩:=hl.uncons
  simp only [zje] at h
  split at h
  ·rename_i p ps' hp hps
   injection h with h;subst h
   refine L2.cons ?_ (zgp hps hr)
   cases x <;> simp only [BV.toPV,reduceCtorEq,Option.some.injEq] at hp
   ·subst hp;exact hu
   ·subst hp;obtain ⟨A,rfl⟩:=hu;exact .nil A 0
  ·cases h
inductive Src (s:Sx):XV→List (List PV)→Prop where
 | sl (xs:List (List PV)):Src s (.c (.pv (.sl xs))) xs
 | emp:Src s (.c .emp) []
 | row (b:Nat) (m ch:Bool) (E:TypeId) (sz:Nat) (xs:List (List PV)) (h:s.st[b]?=some (some (.row m ch E sz xs))):Src s (.c (.row b)) xs
theorem Src.reads {s:Sx} {x:XV} {xs:List (List PV)} (h:Src s x xs) {E:En} {η:Hd} {J:Nat→Prop} {a:Act} {w:World} (hr:Rel G E η J s a w) {v:Value} (hx:XVr η J w x v) {sz:Nat} (hsz:∀ y∈xs,y.length=sz) :
  ∃ A c us,v=.slice A xs.length c∧xs.length≤c∧L2 (Rd w J) xs.flatten us∧us.length=xs.length*sz∧(xs≠[]→∃ k off,A=some ⟨k,off,none⟩∧∀ (j:Nat) (u:Value),us[j]?=some u→w.cell? ⟨k,off+j,none⟩=some u):=by
 have flen:∀ (ys:List (List PV)),(∀ y∈ys,y.length=sz)→ys.flatten.length=ys.length*sz:=by
  intro ys
  induction ys with
  | nil=>simp
  | cons y ys ih=>intro h;rw [List.flatten_cons,List.length_append,h y List.mem_cons_self,ih (fun z hz=>h z (List.mem_cons_of_mem _ hz)),List.length_cons,Nat.add_mul];omega
 cases h with
 | sl xs =>
  have h1:Rd w J (.sl xs) v:=hx
  cases h1 with
  | nil A cap=>exact ⟨A,cap,[],rfl,Nat.zero_le _,L2.nil,by simp,fun h=>absurd rfl h⟩
  | sl xs sz' blk off cap us hne hJ hc q1 q2 q3 =>
   have hs:sz'=sz:=by
    obtain ⟨y,ys,e⟩:=List.exists_cons_of_ne_nil hne
    rw [← q1 0 y (by rw [e];rfl)];exact hsz y (by rw [e];exact List.mem_cons_self)
   subst hs
   have hfl:=flen xs hsz
   rcases Nat.eq_zero_or_pos sz' with hz|hz
   ·subst hz
    refine ⟨_,cap,[],rfl,hc,⟨by simpa using hfl,fun i x y hx=>?_⟩,by simp,fun _=>⟨blk,off,rfl,fun j u hu=>by simp at hu⟩⟩
    have:=(List.getElem?_eq_some_iff.1 hx).1
    omega
   ·have idx:∀ k,k<xs.length*sz'→∃ x p,xs[k / sz']?=some x∧x[k % sz']?=some p∧xs.flatten[k]?=some p∧k / sz' * sz' + k % sz'=k:=by
     intro k hk
     have hd:k / sz' < xs.length:=Nat.div_lt_of_lt_mul (by rw [Nat.mul_comm];exact hk)
     have hm:k % sz' < sz':=Nat.mod_lt _ hz
     have e1:xs[k / sz']?=some xs[k / sz']:=List.getElem?_eq_getElem hd
     have hxl:xs[k / sz'].length=sz':=q1 _ _ e1
     have e2:xs[k / sz'][k % sz']?=some (xs[k / sz'][k % sz']'(by omega)):=List.getElem?_eq_getElem (by omega)
     have e3:=z70 hsz e1 e2
     have e4:k / sz' * sz' + k % sz'=k:=by rw [Nat.mul_comm];exact Nat.div_add_mod k sz'
     rw [e4] at e3
     exact ⟨_,_,e1,e2,e3,e4⟩
    refine ⟨_,cap,(List.range (xs.length*sz')).map (fun k=>us (k / sz') (k % sz')),rfl,hc,⟨by simp [hfl],fun k p u hp hu=>?_⟩,by simp,fun _=>⟨blk,off,rfl,fun k u hu=>?_⟩⟩
    ·have hk:k<xs.length*sz':=by rw [← hfl];exact (List.getElem?_eq_some_iff.1 hp).1
     obtain ⟨x,p',e1,e2,e3,_⟩:=idx k hk
     rw [hp] at e3;injection e3 with e3;subst e3
     rw [List.getElem?_map,List.getElem?_range hk] at hu
     injection hu with hu;subst hu
     exact q3 _ x _ _ e1 e2
    ·have hk:k<xs.length*sz':=by
      have:=(List.getElem?_eq_some_iff.1 hu).1;simpa using this
     obtain ⟨x,p',e1,e2,e3,e4⟩:=idx k hk
     rw [List.getElem?_map,List.getElem?_range hk] at hu
     injection hu with hu;subst hu
     have:=q2 _ x _ _ e1 e2
     rwa [e4] at this
 | emp=>obtain ⟨A,rfl⟩:=hx;exact ⟨A,0,[],rfl,Nat.zero_le _,L2.nil,by simp,fun h=>absurd rfl h⟩
 | row b m ch T sz' xs hb =>
  obtain ⟨_,rfl,_⟩:=hx
  rcases (hr.ok.obj b _ hb).2 with ⟨h0,A,h1⟩|⟨us,k,cap,h0,hc,h1,h2,h3⟩
  ·subst h0;exact ⟨A,0,[],h1,Nat.zero_le _,L2.nil,by simp,fun h=>absurd rfl h⟩
  ·refine ⟨_,cap,us,h0,?_,h2,by rw [← h2.len];exact flen xs hsz,fun _=>⟨k,0,rfl,fun j u hu=>?_⟩⟩
   ·rcases h1.2 with ⟨q,_⟩|⟨g,c,cur,q,_,_,hcc,_⟩
    ·rw [h0] at q;cases q
    ·rw [h0] at q;injection q with _ _ q;subst q;exact hcc
   ·have:=h1.cells (g:=k) (by rw [h0];rfl) j u hu
    rwa [Addr.add_lit] at this
end
end Go.Proofs.YtimbigpplbbjaaaGreatDoor.Abs

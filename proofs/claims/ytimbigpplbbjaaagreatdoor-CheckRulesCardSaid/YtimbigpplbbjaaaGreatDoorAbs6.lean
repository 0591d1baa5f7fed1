/- Abstract states of the machine: append, slices that are made, and states that say less. -/
import Derived.Test.YtimbigpplbbjaaaGreatDoorAbs5
namespace Go.Proofs.YtimbigpplbbjaaaGreatDoor.Abs
open Go Go.RowKit
set_option linter.unusedVariables false
set_option linter.unusedSimpArgs false
section
variable {P:Program} {G:Nat→Option (List PV)}
structure TyE (P:Program) (E:TypeId) (sz bytes:Nat):Prop where
 inf:(P.info? E).map (fun i=>(i.size,i.bytes,i.zero.map fun z=>z.cells.size))=some (sz,bytes,some sz)
theorem TyE.get {E:TypeId} {sz bytes:Nat} (h:TyE P E sz bytes):∃ i z,P.info? E=some i∧i.size=sz∧i.bytes=bytes∧i.zero=some z∧z.cells.size=sz:=by
 have:=h.inf
 cases hi:P.info? E with
 | none=>rw [hi] at this;cases this
 | some i =>
  rw [hi] at this
  simp only [Option.map_some,Option.some.injEq,Prod.mk.injEq] at this
  obtain ⟨h1,h2,h3⟩:=this
  cases hz:i.zero with
  | none=>rw [hz] at h3;cases h3
  | some z=>rw [hz] at h3;injection h3 with h3;exact ⟨i,z,rfl,h1,h2,hz,h3⟩
theorem zei {T E ty:TypeId} {sz bytes:Nat} (hu:P.underlying T=some (.slice E)) (hE:TyE P E sz bytes) (A B:Option Addr) (n cap c:Nat) (h:n≤cap) (w:World) :
  (Builtin.append_ #[T,T] ty #[.slice A n cap,.slice B 0 c]).run P w=.ok (.slice A n cap) w:=by
 obtain ⟨i,z,hi,h1,h2,hz,h3⟩:=hE.get
 cases A <;> cases B <;> simp [Builtin.append_,run_underlying hu,sizeOf,typeInfo,hi,Builtin.lenOf,Builtin.firstCells,loadCells,loadCellsFrom,h,storeCells]
structure Apd (w:World) (E sz:Nat) (v:Value) (n:Nat) (us:List Value) (v':Value) (w':World):Prop where
 os:w'.os=w.os
 tape:w'.tape=w.tape
 output:w'.output=w.output
 size:w.heap.size≤w'.heap.size
 keep:∀ k,k<w.heap.size→(∀ m cap,v=.slice (some ⟨k,0,none⟩) m cap→cap=0)→w'.heap[k]?=w.heap[k]?
 res:∃ k cap,v'=.slice (some ⟨k,0,none⟩) n cap∧0<cap∧w'.ownsRow 0 E sz v' n us∧((∃ m c,v=.slice (some ⟨k,0,none⟩) m c∧0<c)∨w.heap.size≤k)
theorem zij {T E ty:TypeId} {sz bytes:Nat} (hu:P.underlying T=some (.slice E)) (hE:TyE P E sz bytes) (w:World) (v:Value) (n:Nat) (xs:List Value)
  (hv:(n=0∧xs=[]∧∃ A,v=.slice A 0 0)∨(w.ownsRow 0 E sz v n xs∧∃ k cap,v=.slice (some ⟨k,0,none⟩) n cap∧0<cap))
  (a:Addr) (m c:Nat) (news:List Value) (hl:news.length=m*sz) (hnews:∀ (j:Nat) (u:Value),news[j]?=some u→w.cell? (a.add j)=some u) (h1:∀ u∈news,u.oneCell'=true) (hm:0<m)
  (hb0:0<bytes) (hbytes:(n+m)*bytes≤140737488355328):∃ v' w',(Builtin.append_ #[T,T] ty #[v,.slice (some a) m c]).run P w=.ok v' w'∧Apd w E sz v (n+m) (xs++news) v' w':=by
 obtain ⟨i,z,hi,q1,q2,hz,q3⟩:=hE.get
 subst q1;subst q2
 have hsmall:n+m≤140737488355328:=by
  have:(n+m)*1≤(n+m)*i.bytes:=Nat.mul_le_mul_left _ hb0
  omega
 have grown:∀ (old:Nat),old<n+m→(xs.length=n*i.size) →
   Apd w E i.size v (n+m) (xs++news) (.slice (some ⟨w.heap.size,0,none⟩) (n+m) (grownCap w (n+m) old E)) (w.drew.alloc (.cells (xs.toArray++news.toArray++Builtin.zeroCells z.cells (grownCap w (n+m) old E - (n+m))) E)):=by
  intro old ho hxl
  have hge:=grownCap_ge w (n+m) old E
  have hcm:grownCap w (n+m) old E≤maxLen:=grownCap_le_maxLen w (n+m) old E (by simp only [maxLen];omega)
  have hlen:(xs++news).length=(n+m)*i.size:=by rw [List.length_append,hxl,hl,Nat.add_mul]
  refine ⟨rfl,rfl,rfl,by simp,fun k hk _=>heap_alloc_old w.drew _ k hk,w.heap.size,_,rfl,by omega,⟨hlen,.inr ⟨w.heap.size,_,_,rfl,Nat.zero_le _,heap_alloc_new w.drew _,hge,hcm,?_,?_⟩⟩,.inr (Nat.le_refl _)⟩
  ·simp only [Array.size_append,List.size_toArray,size_zeroCells,q3,hxl,hl,← Nat.add_mul]
   congr 1
   omega
  ·simp only [Array.toList_append,List.append_assoc]
   rw [← List.append_assoc,← hlen]
   exact List.take_left
 rcases hv with ⟨rfl,rfl,A,rfl⟩|⟨hown,k,cap,rfl,hcap⟩
 ·have hg:=grown 0 (by omega) (by simp)
  cases A with
  | none =>
   have hr:=run_append_nil (P:=P) w T ty E i z hu hi hz a m c news hl hnews hm (by omega) (by rw [Nat.zero_add] at hbytes;omega)
   simp only [Nat.zero_add,List.nil_append,Array.empty_append] at hg hr ⊢
   exact ⟨_,_,hr,hg⟩
  | some b =>
   have hr:=run_append_grow (P:=P) w T ty E i z hu hi hz b 0 0 [] (by simp) (fun j v h=>by simp at h) a m c news hl hnews (by omega) (by omega) (growslice_fits (by omega) hbytes)
   exact ⟨_,_,hr,hg⟩
 ·rcases hown.2 with ⟨q,_⟩|⟨g,cap',cur,q,_,hg,hnc,hcm,hcs,htake⟩
  ·cases q
  ·injection q with q4 q5 q6
   injection q4 with q4
   injection q4 with q4
   subst q4;subst q6
   by_cases hroom:n+m≤cap
   ·have hfit:n*i.size+news.length≤cur.size:=by rw [hl,hcs,← Nat.add_mul];exact Nat.mul_le_mul_right _ hroom
    have hr:=run_append_room (P:=P) w T ty E i hu hi k n cap cur hg a m c news hl hnews h1 hroom hfit
    have hlen:(xs++news).length=(n+m)*i.size:=by rw [List.length_append,hown.1,hl,Nat.add_mul]
    refine ⟨_,_,hr,rfl,rfl,rfl,by simp,fun j hj hn=>z8i w k j _ (fun e=>?_),k,cap,rfl,hcap,⟨hlen,.inr ⟨k,cap,_,rfl,Nat.zero_le _,setRow_heap w k cur _ E _ hg,hroom,hcm,?_,?_⟩⟩,.inl ⟨n,cap,rfl,hcap⟩⟩
    ·subst e;have:=hn n cap rfl;omega
    ·simp only [List.size_toArray,List.length_append,List.length_take,List.length_drop,Array.length_toList]
     omega
    ·rw [htake,← hlen]
     exact List.take_left
   ·have holds:∀ (j:Nat) (u:Value),xs[j]?=some u→w.cell? ((⟨k,0,none⟩:Addr).add j)=some u:=hown.cells (g:=k) rfl
    have hr:=run_append_grow (P:=P) w T ty E i z hu hi hz ⟨k,0,none⟩ n cap xs hown.1 holds a m c news hl hnews (by omega) (by omega) (growslice_fits (by omega) hbytes)
    exact ⟨_,_,hr,grown cap (by omega) hown.1⟩
def prg (b:Nat):BV→BV
 | .row c=>if c=b then .any else .row c
 | .rp c sz i o=>if c=b then .any else .rp c sz i o
 | .box c o=>if c=b then .any else .box c o
 | .bx c n=>if c=b then .any else .bx c n
 | .pr c sz i n=>if c=b then .any else .pr c sz i n
 | x=>x
theorem zka {η η':Hd} {J:Nat→Prop} {w w':World} {b:Nat} (hn:∀ c,η.d c→η'.d c) (hη:∀ c,c≠b→η'.f c=η.f c) (hw:∀ k,J k→w'.heap[k]?=w.heap[k]?) {x:BV} {v:Value} (h:BVr η J w x v):BVr η' J w' (prg b x) v:=by
 have mono:x.ref≠some b→BVr η' J w' x v:=fun hr=>BVr.mono (fun _ h=>h) hw (fun c h' hc=>⟨hn c h',hη c (fun e=>hr (e ▸ hc))⟩) h
 have one:=h.one
 cases x with
 | row c =>
  show BVr η' J w' (if c=b then .any else .row c) v
  split
  ·exact one
  ·rename_i e;exact mono (fun h=>e (by injection h))
 | rp c sz i o =>
  show BVr η' J w' (if c=b then .any else .rp c sz i o) v
  split
  ·exact one
  ·rename_i e;exact mono (fun h=>e (by injection h))
 | box c o =>
  show BVr η' J w' (if c=b then .any else .box c o) v
  split
  ·exact one
  ·rename_i e;exact mono (fun h=>e (by injection h))
 | bx c n =>
  show BVr η' J w' (if c=b then .any else .bx c n) v
  split
  ·exact one
  ·rename_i e;exact mono (fun h=>e (by injection h))
 | pr c sz i n =>
  show BVr η' J w' (if c=b then .any else .pr c sz i n) v
  split
  ·exact one
  ·rename_i e;exact mono (fun h=>e (by injection h))
 | any=>exact mono (fun h=>by cases h)
 | pv p=>exact mono (fun h=>by cases h)
 | emp=>exact mono (fun h=>by cases h)
 | ep xs=>exact mono (fun h=>by cases h)
theorem zxj {o:Oper} {s:Sx} {K:Sx→Prop} {t:Nat} {T E:TypeId} {x y:Operand} {b sz bytes:Nat} {ch:Bool} {yv:XV} {xs ys:List (List PV)} (hd:o.dst=some t) (ht:decide (t<s.n)=true)
  (ho:o.op=.call { callee:=.builtin .append,args:=#[x,y],argTypes:=#[T,T] }) (hu:P.underlying T=some (.slice E)) (hE:TyE P E sz bytes) (hb0:0<bytes)
  (hx:val G s.env x=some (.c (.row b))) (hb:s.st[b]?=some (some (.row true ch E sz xs))) (hy:val G s.env y=some yv) (hs:Src s yv ys) (hsz:∀ e∈ys,e.length=sz) (hbytes:(xs.length+ys.length)*bytes≤140737488355328)
  (hk:K ⟨s.n,s.m,(t,[.c (.row b)])::z5b (prg b) s.env,(z99 (prg b) s.st).set b (some (.row true true E sz (xs++ys)))⟩):OpT P G o s K:=by
 refine zmj hd fun E0 η J a w hr=>?_
 obtain ⟨hbn,hv,hone⟩:=hr.val hx
 obtain ⟨A,c,us,hyv,hc,hl,hlen,hcell⟩:=hs.reads hr (hr.val hy) hsz
 have hbe:=hr.ok.obj b _ hb
 have hbn':b<s.st.length:=(List.getElem?_eq_some_iff.1 hb).1
 have hrun0:∀ w2 v2,(Builtin.append_ #[T,T] o.type #[a.eval x,a.eval y]).run P w=.ok v2 w2→(execOp a.eval o).run P w=.ok (.value v2) w2:=fun w2 v2 h=>by
  simp [execOp,ho,resolve,invoke,builtin,h]
 by_cases h0:ys=[]
 ·subst h0
  have hcap:∃ A' n cap,a.eval x=.slice A' n cap∧n≤cap:=by
   rcases hbe.2 with ⟨_,A',h1⟩|⟨us',k,cap,q0,qc,q1,_⟩
   ·exact ⟨A',0,0,hv.trans h1,Nat.le_refl _⟩
   ·refine ⟨_,_,cap,hv.trans q0,?_⟩
    rcases q1.2 with ⟨q,_⟩|⟨g,c,cur,q,_,_,hcc,_⟩
    ·rw [q0] at q;cases q
    ·rw [q0] at q;injection q with _ _ q;subst q;exact hcc
  obtain ⟨A',n,cap,e1,e2⟩:=hcap
  have hr0:=zei (ty:=o.type) hu hE A' A n cap c e2 w
  simp only [List.length_nil] at hyv
  rw [← e1,← hyv] at hr0
  have hpf:∀ x v,BVr η J w x v→BVr η J w (prg b x) v:=fun x v h=>zka (η:=η) (η':=η) (w:=w) (w':=w) (fun _ h=>h) (fun _ _=>rfl) (fun _ _=>rfl) h
  refine ⟨_,w,η,J,_,[.c (.row b)],hrun0 _ _ hr0,hr.turn (b:=b) (o:=.row true ch E sz xs) (f:=prg b) (new:=some (.row true true E sz (xs++[]))) ⟨hb,rfl,fun _ h=>h,fun _ _=>rfl,fun _ _=>rfl,fun _ h=>h,rfl,rfl,rfl,Nat.le_refl _,fun _ _ _=>rfl,hpf,fun o' ho'=>?_,fun o' k ho' hk=>⟨.inr hk,hr.ok.jd b _ k hb hk⟩,fun _ h=>.inl h⟩,by simpa using ht,⟨hbn,hv,hone⟩,hk⟩
  ·injection ho' with ho';subst ho'
   rw [List.append_nil]
   exact ⟨hbe,rfl,fun h=>by cases h⟩
 ·obtain ⟨k0,off0,rfl,hcell2⟩:=hcell h0
  have hm:0<ys.length:=by
   rcases Nat.eq_zero_or_pos ys.length with h|h
   ·exact absurd (List.eq_nil_of_length_eq_zero h) h0
   ·exact h
  have h1:∀ u∈us,u.oneCell'=true:=fun u hu2=>by
   obtain ⟨i,hi⟩:=List.mem_iff_getElem?.1 hu2
   have hlt:i<ys.flatten.length:=by rw [hl.len];exact (List.getElem?_eq_some_iff.1 hi).1
   exact (hl.at_ i _ u (List.getElem?_eq_getElem hlt) hi).one
  have hvv:∃ olds,((xs.length=0∧olds=[]∧∃ A,a.eval x=.slice A 0 0)∨(w.ownsRow 0 E sz (a.eval x) xs.length olds∧∃ k cap,a.eval x=.slice (some ⟨k,0,none⟩) xs.length cap∧0<cap))∧L2 (Rd w J) xs.flatten olds∧∀ e∈xs,e.length=sz:=by
   rcases hbe.2 with ⟨q0,A',h1⟩|⟨us',k,cap,q0,qc,q1,q2,q3⟩
   ·subst q0;exact ⟨[],.inl ⟨rfl,rfl,A',hv.trans h1⟩,L2.nil,fun e he=>by cases he⟩
   ·exact ⟨us',.inr ⟨by rw [hv];exact q1,k,cap,hv.trans q0,qc⟩,q2,q3⟩
  obtain ⟨olds,hvv,ho1,ho2⟩:=hvv
  obtain ⟨v',w',hrun,ap⟩:=zij (ty:=o.type) hu hE w (a.eval x) xs.length olds hvv ⟨k0,off0,none⟩ ys.length c us hlen (fun j u hju=>by rw [Addr.add_lit];exact hcell2 j u hju) h1 hm hb0 hbytes
  rw [← hyv] at hrun
  obtain ⟨k,cap,e1,e2,e3,e4⟩:=ap.res
  have ownb:∀ j,Own η b j→∃ m cap,a.eval x=.slice (some ⟨j,0,none⟩) m cap∧0<cap:=fun j hj=>by
   rcases hj with hj|⟨m,cap,hj,hp⟩|hj
   ·rcases hbe.2 with ⟨_,A',h1⟩|⟨us',k,cap,q0,_⟩
    ·rw [h1] at hj;cases hj
    ·rw [q0] at hj;cases hj
   ·exact ⟨m,cap,hv.trans hj,hp⟩
   ·rw [hbe.1] at hj;cases hj
  have keep:∀ j,j<w.heap.size→¬ Own η b j→w'.heap[j]?=w.heap[j]?:=fun j hj hn=>ap.keep j hj (fun m cap he=>by
   rcases Nat.eq_zero_or_pos cap with h|h
   ·exact h
   ·exact absurd (.inr (.inl ⟨m,cap,hv.symm.trans he,h⟩)) hn)
  have hJw:∀ j,J j→w'.heap[j]?=w.heap[j]?:=fun j hj=>keep j (hr.ok.jlt j hj) (fun ho=>hr.ok.jd b _ j hb ho hj)
  let η':Hd:=⟨fun c=>if c=b then v' else η.f c,η.d,η.x⟩
  have hηb:η'.f b=v':=if_pos rfl
  have hηc:∀ c,c≠b→η'.f c=η.f c:=fun c hc=>if_neg hc
  have hpf:∀ x v,BVr η J w x v→BVr η' J w' (prg b x) v:=fun x v h=>zka (η:=η) (η':=η') (fun _ h=>h) hηc hJw h
  refine ⟨v',w',η',J,_,[.c (.row b)],hrun0 _ _ hrun,hr.turn (b:=b) (o:=.row true ch E sz xs) (f:=prg b) (new:=some (.row true true E sz (xs++ys))) ⟨hb,rfl,fun _ h=>h,hηc,fun _ _=>rfl,fun _ h=>h,ap.os,ap.tape,ap.output,ap.size,keep,hpf,fun o' ho'=>?_,fun o' j ho' hj=>?_,fun _ h=>.inl h⟩,by simpa using ht,⟨hbn,hηb.symm,by rw [e1];rfl⟩,hk⟩
  ·injection ho' with ho';subst ho'
   refine ⟨⟨hbe.1,.inr ⟨olds++us,k,cap,by rw [hηb,List.length_append];exact e1,e2,by rw [hηb,List.length_append];exact e3,?_,fun e he=>?_⟩⟩,rfl,fun h=>by cases h⟩
   ·rw [List.flatten_append]
    exact (ho1.mono fun _ _ h=>Rd.mono (fun _ h=>h) hJw h).append (hl.mono fun _ _ h=>Rd.mono (fun _ h=>h) hJw h)
   ·rcases List.mem_append.1 he with he|he
    ·exact ho2 e he
    ·exact hsz e he
  ·have hjk:j=k:=by
    rcases hj with hj|⟨m,cap',hj,hp⟩|hj
    ·rw [hηb,e1] at hj;cases hj
    ·rw [hηb,e1] at hj;injection hj with hj;injection hj with hj;injection hj with hj;exact hj.symm
    ·rw [show η'.x b=[] from hbe.1] at hj;cases hj
   subst hjk
   rcases e4 with ⟨m,c',e5,e6⟩|e5
   ·have:Own η b j:=.inr (.inl ⟨m,c',hv.symm.trans e5,e6⟩)
    exact ⟨.inr this,hr.ok.jd b _ j hb this⟩
   ·exact ⟨.inl e5,fun h=>by have:=hr.ok.jlt j h;omega⟩
def frz (b:Nat) (xs:List (List PV)):BV→BV
 | .row c=>if c=b then .pv (.sl xs) else .row c
 | .rp c sz i o=>if c=b then .any else .rp c sz i o
 | .box c o=>if c=b then .any else .box c o
 | .bx c n=>if c=b then .any else .bx c n
 | .pr c sz i n=>if c=b then .any else .pr c sz i n
 | x=>x
theorem zsb {s:Sx} {b E sz:Nat} {ch:Bool} {xs:List (List PV)} (hb:s.st[b]?=some (some (.row true ch E sz xs))):Weak G s ⟨s.n,s.m,z5b (frz b xs) s.env,(z99 (frz b xs) s.st).set b none⟩:=by
 intro E0 η J a w hr
 let J':Nat→Prop:=fun k=>J k∨Own η b k
 have hbe:=hr.ok.obj b _ hb
 have hf:∀ x v,BVr η J w x v→BVr η J' w (frz b xs x) v:=by
  intro x v h
  have mono:BVr η J' w x v:=BVr.mono (fun _ h=>.inl h) (fun _ _=>rfl) (fun _ h _=>⟨h,rfl⟩) h
  have one:=h.one
  cases x with
  | row c =>
   show BVr η J' w (if c=b then .pv (.sl xs) else .row c) v
   split
   ·rename_i e;subst e
    obtain ⟨_,h1,_⟩:=h
    show Rd w J' (.sl xs) v
    subst h1
    rcases hbe.2 with ⟨q0,A',h1⟩|⟨us',k,cap,q0,qc,q1,q2,q3⟩
    ·subst q0;rw [h1];exact .nil A' 0
    ·rcases List.eq_nil_or_concat xs with hx|⟨_,_,hx⟩
     ·subst hx;rw [q0];exact .nil _ cap
     ·have hne:xs≠[]:=by rw [hx];simp
      have hcap:xs.length≤cap:=by
       rcases q1.2 with ⟨q,_⟩|⟨g,c',cur,q,_,_,hcc,_⟩
       ·rw [q0] at q;cases q
       ·rw [q0] at q;injection q with _ _ q;subst q;exact hcc
      rw [q0]
      have cell:∀ (i:Nat) (x:List PV) (j:Nat) (p:PV),xs[i]?=some x→x[j]?=some p→∃ u,us'[i*sz+j]?=some u∧w.cell? ⟨k,0+(i*sz+j),none⟩=some u∧Rd w J' p u:=by
       intro i x j p hx hp
       obtain ⟨u,hu,hR⟩:=q2.get (z70 q3 hx hp)
       have:=q1.cells (g:=k) (by rw [q0];rfl) (i*sz+j) u hu
       rw [Addr.add_lit] at this
       exact ⟨u,hu,this,Rd.mono (fun _ h=>.inl h) (fun _ _=>rfl) hR⟩
      refine Rd.sl xs sz k 0 cap (fun i j=>us'.getD (i*sz+j) undef) hne (.inr (.inr (.inl ⟨_,cap,q0,qc⟩))) hcap (fun i x hx=>q3 x (List.mem_of_getElem? hx)) (fun i x j p hx hp=>?_) (fun i x j p hx hp=>?_)
      ·obtain ⟨u,h1,h2,h3⟩:=cell i x j p hx hp
       rw [List.getD_eq_getElem?_getD,h1];exact h2
      ·obtain ⟨u,h1,h2,h3⟩:=cell i x j p hx hp
       rw [List.getD_eq_getElem?_getD,h1];exact h3
   ·exact mono
  | rp c sz i o =>
   show BVr η J' w (if c=b then .any else .rp c sz i o) v
   split
   ·exact one
   ·exact mono
  | box c o =>
   show BVr η J' w (if c=b then .any else .box c o) v
   split
   ·exact one
   ·exact mono
  | bx c n =>
   show BVr η J' w (if c=b then .any else .bx c n) v
   split
   ·exact one
   ·exact mono
  | pr c sz i n =>
   show BVr η J' w (if c=b then .any else .pr c sz i n) v
   split
   ·exact one
   ·exact mono
  | any=>exact mono
  | pv p=>exact mono
  | emp=>exact mono
  | ep xs=>exact mono
 exact ⟨η,J',hr.turn (b:=b) (o:=.row true ch E sz xs) (f:=frz b xs) (new:=none) ⟨hb,rfl,fun _ h=>h,fun _ _=>rfl,fun _ _=>rfl,fun _ h=>.inl h,rfl,rfl,rfl,Nat.le_refl _,fun _ _ _=>rfl,hf,(fun o' ho'=>by cases ho'),(fun o' k ho'=>by cases ho'),fun k hk=>hk⟩⟩
theorem zxk {s:Sx} (t E sz:Nat) (h:lk s.env t=some [.c .emp]):Weak G s ⟨s.n,s.m,(t,[.c (.row s.st.length)])::s.env,s.st++[some (.row true false E sz [])]⟩:=by
 intro E0 η J a w hr
 obtain ⟨A,hA⟩:=hr.env t _ h
 have hno:∀ k,Own (η.push s.st.length (.slice A 0 0)) s.st.length k→w.heap.size≤k:=fun k hk=>by
  exact (zgn Hd.push_n Hd.push_x hk).elim
 have h1:=hr.new (o:=.row true false E sz []) (v:=.slice A 0 0) rfl rfl rfl (Nat.le_refl _) (fun _ _=>rfl) hno ⟨Hd.push_x,.inl ⟨rfl,A,Hd.push_n⟩⟩
 refine ⟨_,J,h1.size,h1.m,h1.defers,fun u xs hu=>?_,h1.ok,h1.ex⟩
 rw [show (⟨s.n,s.m,(t,[.c (.row s.st.length)])::s.env,s.st++[some (.row true false E sz [])]⟩:Sx).env=(t,[.c (.row s.st.length)])::s.env from rfl] at hu
 simp only [lk] at hu
 split at hu
 ·rename_i e;subst e;injection hu with hu;subst hu
  rw [hA]
  exact ⟨.inr rfl,Hd.push_n.symm,rfl⟩
 ·exact h1.env u xs hu
def cut (m:Nat):BV→BV
 | .row c=>if c<m then .row c else .any
 | .rp c sz i o=>if c<m then .rp c sz i o else .any
 | .box c o=>if c<m then .box c o else .any
 | .bx c n=>if c<m then .bx c n else .any
 | .pr c sz i n=>if c<m then .pr c sz i n else .any
 | x=>x
theorem z00s {s:Sx} (m:Nat) (h:(decide (s.m≤m))=true) (h':m≤s.st.length):Weak G s ⟨s.n,s.m,z5b (cut m) s.env,(z99 (cut m) s.st).take m⟩:=by
 intro E0 η J a w hr
 have h:=of_decide_eq_true h
 let η':Hd:=⟨η.f,fun b=>η.d b∧b<m,η.x⟩
 have hf:∀ x v,BVr η J w x v→BVr η' J w (cut m x) v:=by
  intro x v hx
  have one:=hx.one
  cases x with
  | row c =>
   show BVr η' J w (if c<m then .row c else .any) v
   split
   ·rename_i e;exact ⟨⟨hx.1,e⟩,hx.2⟩
   ·exact one
  | rp c sz i o =>
   show BVr η' J w (if c<m then .rp c sz i o else .any) v
   split
   ·rename_i e;exact ⟨⟨hx.1,e⟩,hx.2⟩
   ·exact one
  | box c o =>
   show BVr η' J w (if c<m then .box c o else .any) v
   split
   ·rename_i e;exact ⟨⟨hx.1,e⟩,hx.2⟩
   ·exact one
  | bx c n =>
   show BVr η' J w (if c<m then .bx c n else .any) v
   split
   ·rename_i e;exact ⟨⟨hx.1,e⟩,hx.2⟩
   ·exact one
  | pr c sz i n =>
   show BVr η' J w (if c<m then .pr c sz i n else .any) v
   split
   ·rename_i e;exact ⟨⟨hx.1,e⟩,hx.2⟩
   ·exact one
  | any=>exact hx
  | pv p=>exact hx
  | emp=>exact hx
  | ep xs=>exact hx
 have look:∀ c o',((z99 (cut m) s.st).take m)[c]?=some (some o')→c<m∧∃ o1,s.st[c]?=some (some o1)∧o'=o1.map (cut m):=fun c o' hc=>by
  rw [List.getElem?_take] at hc
  split at hc
  ·rename_i e;exact ⟨e,(zk9 (cut m) s.st c o').1 hc⟩
  ·cases hc
 have hm':((z99 (cut m) s.st).take m).length=m:=by simp [z99];omega
 refine ⟨η',J,hr.size,hr.m,hr.defers,fun t xs ht=>?_,⟨fun c hc=>by rw [hm'];exact hc.2,hr.ok.jlt,fun c o' hc=>?_,fun c d o1 o2 k hc hd hck hdk=>?_,fun c o' k hc hk=>?_,hr.ok.glob⟩,?_⟩
 ·rw [show (⟨s.n,s.m,z5b (cut m) s.env,(z99 (cut m) s.st).take m⟩:Sx).env=z5b (cut m) s.env from rfl,zn7] at ht
  cases hl:lk s.env t with
  | none=>rw [hl] at ht;cases ht
  | some ys=>rw [hl] at ht;injection ht with ht;subst ht;exact Rs.map hf (hr.env t ys hl)
 ·obtain ⟨_,o1,h1,rfl⟩:=look c o' hc
  exact (hr.ok.obj c o1 h1).map (η':=η') rfl rfl (fun _ _=>rfl) hf (fun _ _ h=>h)
 ·obtain ⟨_,o1',h1,rfl⟩:=look c o1 hc
  obtain ⟨_,o2',h2,rfl⟩:=look d o2 hd
  exact hr.ok.dis c d o1' o2' k h1 h2 hck hdk
 ·obtain ⟨_,o1',h1,rfl⟩:=look c o' hc
  exact hr.ok.jd c o1' k h1 hk
 ·have hx:=hr.ex
  refine ⟨hx.jj,hx.os,hx.tape,hx.output,hx.size,hx.keep,hx.jn,by rw [hm',hr.m];exact h,fun c o' k hc hk=>?_,fun c o' hl hc hs=>?_⟩
  ·obtain ⟨_,o1',h1,rfl⟩:=look c o' hc
   rw [zhh]
   exact hx.own c o1' k h1 hk
  ·obtain ⟨_,o1',h1,rfl⟩:=look c o' hc
   rw [zii] at hs
   exact hx.hdr c o1' hl h1 hs
theorem zxl {s:Sx} (b:Nat):Weak G s ⟨s.n,s.m,s.env,s.st.set b none⟩:=by
 intro E0 η J a w hr
 have look:∀ c o',(s.st.set b none)[c]?=some (some o')→s.st[c]?=some (some o'):=fun c o' hc=>by
  by_cases e:b=c
  ·subst e
   rw [List.getElem?_set] at hc
   simp only [if_true] at hc
   split at hc
   ·injection hc with hc;cases hc
   ·cases hc
  ·rwa [List.getElem?_set_ne e] at hc
 exact ⟨η,J,hr.size,hr.m,hr.defers,hr.env,⟨fun c hc=>by simpa using hr.ok.len c hc,hr.ok.jlt,fun c o hc=>hr.ok.obj c o (look c o hc),fun c d o1 o2 k hc hd=>hr.ok.dis c d o1 o2 k (look c o1 hc) (look d o2 hd),fun c o k hc=>hr.ok.jd c o k (look c o hc),hr.ok.glob⟩,
  ⟨hr.ex.jj,hr.ex.os,hr.ex.tape,hr.ex.output,hr.ex.size,hr.ex.keep,hr.ex.jn,by simpa using hr.ex.len,fun c o k hc=>hr.ex.own c o k (look c o hc),fun c o hl hc=>hr.ex.hdr c o hl (look c o hc)⟩⟩
end
end Go.Proofs.YtimbigpplbbjaaaGreatDoor.Abs

/- Abstract states of the machine: the rules of a drawn region. -/
import Derived.Test.YtimbigpplbbjaaaGreatDoorAbsE
namespace Go.Proofs.YtimbigpplbbjaaaGreatDoor.Abs
open Go Go.RowKit
set_option linter.unusedVariables false
set_option linter.unusedSimpArgs false
section
variable {P:Program} {G:Nat→Option (List PV)} {ops:Array Oper} {n m:Nat} {env0:List (Nat × List XV)} {T:List Ent} {st:z0q} {K:Sx→Prop}
theorem z06w {id:Nat} {l:List Oper} {env:List (Nat × List XV)} {Q:Exit→Sx→Prop} (hm:P.follows .mixedOrders=true) (h:DrT P G l.toArray n m env [] st (fun s'=>Q .normal s')):z9w P G (.region id l.toArray true) ⟨n,m,env,st⟩ Q:=by
 intro E η J a w hr
 have hoff:∀ i,onL (Array.replicate l.toArray.size false) i=false:=fun i=>by
  unfold onL
  rw [Array.getD_eq_getD_getElem?,Array.getElem?_replicate]
  by_cases h:i<l.toArray.size
  ·rw [if_pos h];rfl
  ·rw [if_neg h];rfl
 have hg:Good l.toArray [] (Array.replicate l.toArray.size false):=⟨by simp,(fun i hi=>by rw [hoff] at hi;cases hi),(fun e he=>by cases he),fun j oj _ hl=>by rw [show (Array.replicate l.toArray.size false).getD j false=false from hoff j] at hl;cases hl⟩
 exact wp_region_any hm (h _ hg E η J a _ hr.drew (fun e he=>by cases he) _ _ (fun a' w' η' J' s' hK hr'=>⟨η',J',s',hK,hr'⟩) (by omega))
theorem zqs {lst:Array Bool} {i:Nat} (hf:T.all (fun f=>!(f.i==i))=true) (hg:Good ops T lst):onL lst i=false:=by
 cases h:onL lst i with
 | false=>rfl
 | true =>
  obtain ⟨e,he,hei⟩:=hg.sub i h
  have:=List.all_eq_true.1 hf e he
  simp [hei] at this
theorem z048 {e:Ent} (hf:T.all (fun f=>!(f.i==e.i))=true) (hk:∀ b o,e.k≠.birth b o) (hk':e.k≠.heavy) (h:DrT P G ops n m env0 (e::T) st K):DrT P G ops n m env0 T st K:=by
 intro lst hg E η J a w hr hu Q' fuel hK hfu
 have hoff:=zqs hf hg
 refine h lst ⟨hg.size,fun j hj=>?_,fun f hf' hfk=>?_,hg.closed⟩ E η J a w ?_ (fun f hf' b o hfk=>?_) Q' fuel hK hfu
 ·obtain ⟨f,hf',h1⟩:=hg.sub j hj;exact ⟨f,List.mem_cons_of_mem _ hf',h1⟩
 ·rcases List.mem_cons.1 hf' with rfl|hf'
  ·exact absurd hfk hk'
  ·exact hg.heavy f hf' hfk
 ·have e1:envT (onL lst) env0 (e::T)=envT (onL lst) env0 T:=by simp only [envT,hoff,Bool.false_eq_true,if_false]
  have e2:zaq (onL lst) (e::T) st=zaq (onL lst) T st:=by
   obtain ⟨i,t,x,k⟩:=e
   cases k with
   | birth b o=>exact absurd rfl (hk b o)
   | _=>rfl
  rw [e1,e2];exact hr
 ·rcases List.mem_cons.1 hf' with rfl|hf'
  ·exact absurd hfk (hk b o)
  ·exact hu f hf' b o hfk
def forced (W:List (List Bool)) (T:List Ent) (e:Ent):Bool:=T.any fun h=>(match h.k with|.heavy=>true|_=>false)&&waits W e.i h.i
def zjg (e:Ent):Bool:=match e.k with|.heavy=>true|_=>false
def Owed (P:Program) (G:Nat→Option (List PV)) (ops:Array Oper) (W:List (List Bool)) (n m:Nat) (env0:List (Nat × List XV)) (st:z0q) (T:List Ent):List Ent→List Ent→Prop
 | _,[]=>True
 | A,e::T'=>(if forced W T e || zjg e then True else zll P G ops W n m env0 st A e T')∧Owed P G ops W n m env0 st T (A++[e]) T'
theorem Owed.at {W:List (List Bool)}:∀ {A T':List Ent},Owed P G ops W n m env0 st T A T'→∀ B e C,T'=B++e::C→(∃ h∈T,h.k=.heavy∧waits W e.i h.i=true)∨e.k=.heavy∨zll P G ops W n m env0 st (A++B) e C
 | A,[],h,B,e,C,hT=>by cases B <;> cases hT
 | A,x::T',h,[],e,C,hT=>by
  injection hT with h1 h2
  subst h1;subst h2
  have h1:=h.1
  rw [List.append_nil]
  by_cases hf:(forced W T x || zjg x)=true
  ·simp only [Bool.or_eq_true] at hf
   rcases hf with hf|hf
   ·obtain ⟨g,hg,h2⟩:=List.any_eq_true.1 hf
    simp only [Bool.and_eq_true] at h2
    refine .inl ⟨g,hg,?_,h2.2⟩
    have:=h2.1
    split at this
    ·assumption
    ·cases this
   ·refine .inr (.inl ?_)
    unfold zjg at hf
    split at hf
    ·assumption
    ·cases hf
  ·rw [if_neg hf] at h1;exact .inr (.inr h1)
 | A,x::T',h,y::B,e,C,hT=>by
  injection hT with h1 h2
  subst h1
  have:=Owed.at h.2 B e C h2
  rwa [List.append_assoc,List.singleton_append] at this
def okT (ops:Array Oper) (m:Nat) (T:List Ent):Bool :=
 decide (T.map Ent.i).Nodup&&ordB ops T&&T.all fun e=>match e.k with|.birth b _=>decide (m≤b)|_=>true
def zmr (ops:Array Oper) (T:List Ent):Array Bool:=((List.range ops.size).map fun j=>T.any fun f=>f.i==j).toArray
theorem zqt {lst:Array Bool} {i:Nat} (hg:Good ops T lst) (hi:i∈Region.ready .any ops lst) (hn:∀ e∈T,e.i≠i):i∈Region.ready .any ops (zmr ops T):=by
 obtain ⟨_,o,ho,hall⟩:=mem_ready.1 hi
 have hlt:i<ops.size:=(Array.getElem?_eq_some_iff.1 ho).1
 rw [mem_ready]
 refine ⟨?_,o,ho,fun e he hb=>?_⟩
 ·unfold zmr
  simp only [Array.getD_eq_getD_getElem?,List.getElem?_toArray,List.getElem?_map,List.getElem?_range hlt,Option.map_some,Option.getD_some]
  rw [List.any_eq_false]
  intro f hf
  simpa using hn f hf
 ·have h1:=hall e he hb
  obtain ⟨f,hf,hfi⟩:=hg.sub e.on h1
  have hlt':e.on<ops.size:=by
   rw [← hg.size]
   rcases Nat.lt_or_ge e.on lst.size with h|h
   ·exact h
   ·rw [Array.getD_eq_getD_getElem?,Array.getElem?_eq_none h] at h1;cases h1
  unfold zmr
  simp only [Array.getD_eq_getD_getElem?,List.getElem?_toArray,List.getElem?_map,List.getElem?_range hlt',Option.map_some,Option.getD_some]
  exact List.any_eq_true.2 ⟨f,hf,by simpa using hfi⟩
theorem zua (h:okT ops m T=true):(T.map Ent.i).Nodup∧ordB ops T=true∧∀ e∈T,∀ b o,e.k=.birth b o→m≤b:=by
 unfold okT at h
 simp only [Bool.and_eq_true,decide_eq_true_eq] at h
 refine ⟨h.1.1,h.1.2,fun e he b o hk=>?_⟩
 have:=List.all_eq_true.1 h.2 e he
 rw [hk] at this
 simpa using this
theorem z09f {env:List (Nat × List XV)} (W:List (List Bool)) (hW:wOk ops W=true) (hT:okT ops m T=true) (hr:Region.ready .any ops (zmr ops T)=[]) (hV:Owed P G ops W n m env0 st T [] T) (he:envT All env0 T=env) (hK:K ⟨n,m,env,st⟩):DrT P G ops n m env0 T st K:=by
 subst he
 obtain ⟨h2,h3,h4⟩:=zua hT
 refine zxr hW h2 h3 (fun A e T' h=>by have:=hV.at A e T' h;rwa [List.nil_append] at this) h4 (fun lst i hg hi hn=>?_) (fun _=>hK)
 have:=zqt hg hi hn
 rw [hr] at this
 cases this
theorem zub (f:BV→BV) (on:Nat→Bool) (env0:List (Nat × List XV)):∀ T:List Ent,envT on (z5b f env0) (T.map fun e=>⟨e.i,e.t,e.x.map (XV.map f),e.k⟩)=z5b f (envT on env0 T)
 | []=>rfl
 | e::T=>by
  simp only [List.map_cons,envT]
  have ih:=zub f on env0 T
  split
  ·unfold zhk
   cases e.t with
   | none=>exact ih
   | some t=>simp only [ih];rfl
  ·exact ih
def mapT (f:BV→BV) (T:List Ent):List Ent:=T.map fun e=>⟨e.i,e.t,e.x.map (XV.map f),e.k⟩
theorem z049 {o:Oper} {t:Option Nat} (W:List (List Bool)) (h:Nat) (ho:ops[h]?=some o) (hW:wOk ops W=true) (hT:okT ops m T=true) (hr:Region.ready .any ops (zmr ops T)=[h]) (hn:zqq W (names ops h) h T=true) (hb:zxo W [] h T=true)
  (hgd:zfx ops o (zfw (names ops h) (envT All env0 T)) true) (hV:Owed P G ops W n m env0 st T [] T)
  (D:List XV→(BV→BV)→z0q→Prop)
  (hop:∀ env,(∀ u xs,lk (zfw (names ops h) (envT All env0 T)) u=some xs→lk env u=some xs)→OpT P G o ⟨n,m,env,st⟩ (fun s'=>∃ x f st',D x f st'∧s'=⟨n,m,zhk ⟨h,t,x,.heavy⟩ (z5b f env),st'⟩))
  (hk:∀ x f st',D x f st'→DrT P G ops n m (z5b f env0) (⟨h,t,x,.heavy⟩::mapT f T) st' K):DrT P G ops n m env0 T st K:=by
 obtain ⟨h2,h3,h4⟩:=zua hT
 refine zxr hW h2 h3 (fun A e T' h=>by have:=hV.at A e T' h;rwa [List.nil_append] at this) h4 (fun lst i hg hi hni E η J a w hrel hu Q' fuel hK hfu=>?_) (fun ⟨lst,hg,hnil⟩=>?_)
 ·have hih:=zqt hg hi hni
  rw [hr] at hih
  simp only [List.mem_singleton] at hih
  subst hih
  obtain ⟨_,oi,hoi,hpre⟩:=mem_ready.1 hi
  have hlt:i<ops.size:=(Array.getElem?_eq_some_iff.1 hoi).1
  have onB:∀ u∈names ops i,∀ f∈T,f.t=some u→onL lst f.i=true:=fun u hu f hf hft=>by
   have h5:=List.all_eq_true.1 hn f hf
   simp only [hft,Bool.or_eq_true,Bool.not_eq_true'] at h5
   rcases h5 with h5|h5
   ·have:(names ops i).contains u=true:=by simpa using hu
    rw [this] at h5;cases h5
   ·exact zgr hW hg.closed h5 hi
  have hlk:∀ u xs,lk (zfw (names ops i) (envT All env0 T)) u=some xs→lk (envT (onL lst) env0 T) u=some xs:=fun u xs hx=>by
   obtain ⟨h5,h6⟩:=zil hx
   rw [zik (on':=All) (fun f hf hft=>onB u h5 f hf hft)]
   exact h6
  have hbornOn:∀ f∈T,∀ b ob,f.k=.birth b ob→onL lst f.i=true:=fun f hf b ob hk'=>by
   have h5:=List.all_eq_true.1 hb f hf
   rw [hk'] at h5
   simp only [List.contains_nil,Bool.false_or] at h5
   exact zgr hW hg.closed h5 hi
  have hkill:zaq (onL lst) T st=st:=by
   rw [zgt (on':=All) st (fun f hf b ob hk'=>hbornOn f hf b ob hk')]
   exact znf st (fun _ _=>rfl)
  rw [hkill] at hrel
  have hR:Rel G E η J ⟨n,m,zfw (names ops i) (envT All env0 T),st⟩ a w:=⟨hrel.size,hrel.m,hrel.defers,fun u xs hx=>hrel.env u xs (hlk u xs hx),hrel.ok,hrel.ex⟩
  unfold wpOp
  rw [ho]
  simp only
  rw [hgd.wanted hR,if_pos rfl]
  left
  refine hop _ hlk E η J a w hrel _ Q' (fun a' w' η' J' s' hs hr'=>?_)
  obtain ⟨x,f,st',hD,rfl⟩:=hs
  have onset:∀ j,onL (lst.setIfInBounds i true) j=(onL lst j || decide (j=i)):=zxp hg.size hlt
  have hcnt:=(zse hg.size hi).1
  have honT:∀ e∈T,onL (lst.setIfInBounds i true) e.i=onL lst e.i:=fun e he=>by rw [onset];simp [hni e he]
  have honM:∀ e∈mapT f T,∃ e'∈T,e=⟨e'.i,e'.t,e'.x.map (XV.map f),e'.k⟩:=fun e he=>by
   obtain ⟨e',he',rfl⟩:=List.mem_map.1 he;exact ⟨e',he',rfl⟩
  refine hk x f st' hD _ ⟨by simp [hg.size],fun j hj=>?_,fun e he hke=>?_,hg.closed.set hi⟩ E η' J' a' w' ?_ (fun e he b ob hke hoff=>?_) Q' fuel hK (by omega)
  ·rw [onset] at hj
   simp only [Bool.or_eq_true,decide_eq_true_eq] at hj
   rcases hj with hj|rfl
   ·obtain ⟨e,he,hei⟩:=hg.sub j hj
    exact ⟨_,List.mem_cons_of_mem _ (List.mem_map.2 ⟨e,he,rfl⟩),hei⟩
   ·exact ⟨_,List.mem_cons_self,rfl⟩
  ·rcases List.mem_cons.1 he with rfl|he
   ·rw [onset];simp
   ·obtain ⟨e',he',rfl⟩:=honM e he
    rw [onset,hg.heavy e' he' hke];rfl
  ·have e1:envT (onL (lst.setIfInBounds i true)) (z5b f env0) (⟨i,t,x,.heavy⟩::mapT f T)=zhk ⟨i,t,x,.heavy⟩ (z5b f (envT (onL lst) env0 T)):=by
    simp only [envT]
    rw [show onL (lst.setIfInBounds i true) i=true by rw [onset];simp,if_pos rfl]
    congr 1
    have e2:envT (onL (lst.setIfInBounds i true)) (z5b f env0) (mapT f T)=z5b f (envT (onL (lst.setIfInBounds i true)) env0 T):=zub f _ env0 T
    rw [e2]
    congr 1
    have e3:∀ T1:List Ent,(∀ e∈T1,onL (lst.setIfInBounds i true) e.i=onL lst e.i)→envT (onL (lst.setIfInBounds i true)) env0 T1=envT (onL lst) env0 T1:=fun T1 hT1=>by
     induction T1 with
     | nil=>rfl
     | cons e T1 ih=>simp only [envT,hT1 e List.mem_cons_self,ih (fun g hg=>hT1 g (List.mem_cons_of_mem _ hg))]
    exact e3 T honT
   have e4:zaq (onL (lst.setIfInBounds i true)) (⟨i,t,x,.heavy⟩::mapT f T) st'=st':=by
    simp only [zaq]
    rw [zgt (on':=All) st' (fun e he b ob hke=>by
     obtain ⟨e',he',rfl⟩:=honM e he
     rw [honT e' he',hbornOn e' he' b ob hke];rfl)]
    exact znf st' (fun _ _=>rfl)
   rw [e1,e4]
   exact hr'
  ·rcases List.mem_cons.1 he with rfl|he
   ·cases hke
   ·obtain ⟨e',he',rfl⟩:=honM e he
    rw [honT e' he',hbornOn e' he' b ob hke] at hoff
    cases hoff
 ·have hall:=z02t h3 hg.size hnil
  have hmem:h∈Region.ready .any ops (zmr ops T):=by rw [hr];exact List.mem_cons_self
  obtain ⟨hoff,o',ho',hpre⟩:=mem_ready.1 hmem
  have hlt:h<ops.size:=(Array.getElem?_eq_some_iff.1 ho').1
  have hnotT:∀ e∈T,e.i≠h:=fun e he heq=>by
   unfold zmr at hoff
   simp only [Array.getD_eq_getD_getElem?,List.getElem?_toArray,List.getElem?_map,List.getElem?_range hlt,Option.map_some,Option.getD_some] at hoff
   rw [List.any_eq_false] at hoff
   exact hoff e he (by simpa using heq)
  have:h∈Region.ready .any ops lst:=by
   rw [mem_ready]
   refine ⟨?_,o',ho',fun e he hbd=>?_⟩
   ·cases hon:lst.getD h true with
    | false=>rfl
    | true =>
     have hon':onL lst h=true:=by
      unfold onL
      rw [Array.getD_eq_getD_getElem?] at hon ⊢
      rw [Array.getElem?_eq_getElem (by rw [hg.size];exact hlt)] at hon ⊢
      exact hon
     obtain ⟨e,he,hei⟩:=hg.sub h hon'
     exact absurd hei (hnotT e he)
   ·have h5:=hpre e he hbd
    have hlt':e.on<ops.size:=by
     rcases Nat.lt_or_ge e.on ops.size with h6|h6
     ·exact h6
     ·rw [Array.getD_eq_getD_getElem?,Array.getElem?_eq_none (by simp [zmr,h6])] at h5;cases h5
    unfold zmr at h5
    simp only [Array.getD_eq_getD_getElem?,List.getElem?_toArray,List.getElem?_map,List.getElem?_range hlt',Option.map_some,Option.getD_some] at h5
    obtain ⟨f,hf,hfe⟩:=List.any_eq_true.1 h5
    have:=hall f hf
    rw [show f.i=e.on by simpa using hfe] at this
    exact this
  rw [hnil] at this
  cases this
end
end Go.Proofs.YtimbigpplbbjaaaGreatDoor.Abs

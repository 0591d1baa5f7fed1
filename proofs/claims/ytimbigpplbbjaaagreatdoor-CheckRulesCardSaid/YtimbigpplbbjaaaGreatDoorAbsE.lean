/- Abstract states of the machine: the drawn region's theorem. -/
import Derived.Test.YtimbigpplbbjaaaGreatDoorAbsD
namespace Go.Proofs.YtimbigpplbbjaaaGreatDoor.Abs
open Go Go.RowKit
set_option linter.unusedVariables false
set_option linter.unusedSimpArgs false
section
variable {P:Program} {G:Nat→Option (List PV)} {ops:Array Oper}
theorem zcd (on:Nat→Bool):∀ (T:List Ent) (st:z0q),(zaq on T st).length=st.length
 | [],_=>rfl
 | e::T,st=>by
  simp only [zaq]
  split
  ·split
   ·exact zcd on T st
   ·rw [List.length_set];exact zcd on T st
  ·exact zcd on T st
def z8g (on:Nat→Bool) (c:Nat) (f:Ent):Bool:=match f.k with
 | .birth b _=>b==c&&!on f.i
 | _=>false
theorem zgs (on:Nat→Bool) (c:Nat):∀ (T:List Ent) (st:z0q),(zaq on T st)[c]?=if T.any (z8g on c)=true then (if c<st.length then some none else none) else st[c]?
 | [],_=>by simp [zaq]
 | e::T,st=>by
  have ih:=zgs on c T st
  simp only [zaq,List.any_cons]
  cases hk:e.k with
  | birth b o =>
   simp only [z8g,hk]
   by_cases ho:on e.i=true
   ·simp only [ho,if_true,Bool.not_true,Bool.and_false,Bool.false_or];exact ih
   ·simp only [ho,if_false,Bool.false_eq_true,Bool.not_false,Bool.and_true]
    by_cases hb:b=c
    ·subst hb
     simp only [beq_self_eq_true,Bool.true_or,if_true]
     rw [List.getElem?_set,zcd]
     simp
    ·have:(b==c)=false:=by simpa using hb
     simp only [this,Bool.false_or]
     rw [List.getElem?_set_ne hb]
     exact ih
  | light=>simp only [z8g,hk,Bool.false_or];exact ih
  | skip=>simp only [z8g,hk,Bool.false_or];exact ih
  | heavy=>simp only [z8g,hk,Bool.false_or];exact ih
theorem zgt {on on':Nat→Bool}:∀ {T:List Ent} (st:z0q),(∀ f∈T,∀ b o,f.k=.birth b o→on f.i=on' f.i)→zaq on T st=zaq on' T st
 | [],_,_=>rfl
 | e::T,st,h=>by
  have ih:=zgt st (T:=T) (fun f hf=>h f (List.mem_cons_of_mem _ hf))
  simp only [zaq]
  cases hk:e.k with
  | birth b o=>simp only [h e List.mem_cons_self b o hk,ih]
  | light=>exact ih
  | skip=>exact ih
  | heavy=>exact ih
theorem znf {on:Nat→Bool} {T:List Ent} (st:z0q) (h:∀ f∈T,on f.i=true):zaq on T st=st:=by
 induction T with
 | nil=>rfl
 | cons e T ih =>
  simp only [zaq]
  cases hk:e.k with
  | birth b o=>simp only [h e List.mem_cons_self,if_true];exact ih (fun f hf=>h f (List.mem_cons_of_mem _ hf))
  | light=>exact ih (fun f hf=>h f (List.mem_cons_of_mem _ hf))
  | skip=>exact ih (fun f hf=>h f (List.mem_cons_of_mem _ hf))
  | heavy=>exact ih (fun f hf=>h f (List.mem_cons_of_mem _ hf))
theorem zu9:∀ (ks:List Nat) (st:z0q),(kill ks st).length=st.length
 | [],_=>rfl
 | b::ks,st=>by simp only [kill,List.length_set];exact zu9 ks st
theorem zxq:∀ {ks:List Nat} {st:z0q} {c:Nat} {o:Obj'},(kill ks st)[c]?=some (some o)→c ∉ ks∧st[c]?=some (some o)
 | [],st,c,o,h=>⟨by simp,h⟩
 | b::ks,st,c,o,h=>by
  simp only [kill] at h
  by_cases e:b=c
  ·subst e
   rw [List.getElem?_set] at h
   simp only [if_true] at h
   split at h
   ·injection h with h;cases h
   ·cases h
  ·rw [List.getElem?_set_ne e] at h
   obtain ⟨h1,h2⟩:=zxq h
   exact ⟨by simp [h1,Ne.symm e],h2⟩
theorem z00y {η:Hd} {J J':Nat→Prop} {w w':World} {st st':z0q} {n:Nat} {v:Value} {o:Obj'} (h:Ok G η J w st) (g:Grow J w J' w') (hd:¬ η.d n) (hst:∀ b o',st'[b]?=some (some o')↔(b=n∧o'=o)∨(b≠n∧st[b]?=some (some o'))) (hl:st.length≤st'.length) (hn:n<st'.length)
  (hv:∀ k,Own (η.push n v) n k→w.heap.size≤k) (hj:∀ k,Own (η.push n v) n k→¬ J' k) (hO:ObjR (η.push n v) J' w' n o):Ok G (η.push n v) J' w' st':=by
 have hJw:∀ k,J k→w'.heap[k]?=w.heap[k]?:=fun k hk=>g.keep k (h.jlt k hk)
 have own:∀ b k,b≠n→Own (η.push n v) b k→Own η b k:=fun b k hb hk=>by unfold Own at hk;rwa [Hd.push_ne hb,Hd.push_xne hb] at hk
 have id_map:∀ o':Obj',o'.map id=o':=fun o'=>by cases o' <;> simp [Obj'.map]
 refine ⟨fun b hb=>?_,g.jlt,fun b o' hb=>?_,fun b c o1 o2 k hb hc hbk hck=>?_,fun b o' k hb hk=>?_,Glob.mono h.glob g.jj hJw⟩
 ·rcases hb with hb|rfl
  ·exact Nat.lt_of_lt_of_le (h.len b hb) hl
  ·exact hn
 ·rcases (hst b o').1 hb with ⟨rfl,rfl⟩|⟨hne,hb⟩
  ·exact hO
  ·have:=(h.obj b o' hb).map (f:=id) (η':=η.push n v) (J':=J') (w':=w') (Hd.push_ne hne) (Hd.push_xne hne) (fun k hk=>g.keep k ((h.obj b o' hb).lt hk)) (fun x u hx=>BVr.mono g.jj hJw (fun c hc _=>⟨.inl hc,Hd.push_ne (fun e=>hd (e ▸ hc))⟩) hx) (fun p u hp=>Rd.mono g.jj hJw hp)
   rwa [id_map] at this
 ·rcases (hst b o1).1 hb with ⟨rfl,rfl⟩|⟨hne,hb'⟩ <;> rcases (hst c o2).1 hc with ⟨rfl,rfl⟩|⟨hne',hc'⟩
  ·rfl
  ·have:=(h.obj c o2 hc').lt (own _ _ hne' hck)
   have:=hv k hbk
   omega
  ·have:=(h.obj b o1 hb').lt (own _ _ hne hbk)
   have:=hv k hck
   omega
  ·exact h.dis b c o1 o2 k hb' hc' (own _ _ hne hbk) (own _ _ hne' hck)
 ·rcases (hst b o').1 hb with ⟨rfl,rfl⟩|⟨hne,hb'⟩
  ·exact hj k hk
  ·intro hjk
   rcases g.jn k hjk with h1|h1
   ·exact h.jd b o' k hb' (own _ _ hne hk) h1
   ·have:=(h.obj b o' hb').lt (own _ _ hne hk);omega
theorem Rel.bornJ {E:En} {η:Hd} {J J':Nat→Prop} {n m:Nat} {env:List (Nat × List XV)} {st:z0q} {a:Act} {w w':World} {b:Nat} {v:Value} {ob:Obj'} (h:Rel G E η J ⟨n,m,env,st⟩ a w) (hd:¬ η.d b) (hb:st[b]?=some none) (hm:m≤b) (g:Grow J w J' w')
  (hv:∀ k,Own (η.push b v) b k→w.heap.size≤k) (hj:∀ k,Own (η.push b v) b k→¬ J' k) (hO:ObjR (η.push b v) J' w' b ob):Rel G E (η.push b v) J' ⟨n,m,env,st.set b (some ob)⟩ a w':=by
 have hlt:b<st.length:=(List.getElem?_eq_some_iff.1 hb).1
 have hst:∀ c o',(st.set b (some ob))[c]?=some (some o')↔(c=b∧o'=ob)∨(c≠b∧st[c]?=some (some o')):=fun c o'=>by
  by_cases e:c=b
  ·subst e
   rw [List.getElem?_set]
   simp [hlt,eq_comm]
  ·rw [List.getElem?_set_ne (Ne.symm e)]
   simp [e]
 have hf:∀ x u,BVr η J w x u→BVr (η.push b v) J' w' x u:=fun x u hx=>BVr.mono g.jj (fun k hk=>g.keep k (h.ok.jlt k hk)) (fun c hc _=>⟨.inl hc,Hd.push_ne (fun e=>hd (e ▸ hc))⟩) hx
 have hx:=h.ex
 have hx':=(h.grow g).ex
 refine ⟨h.size,h.m,h.defers,fun t xs ht=>?_,z00y h.ok g hd hst (by simp) (by simpa using hlt) hv hj hO,?_⟩
 ·have:=Rs.map (f:=id) hf (h.env t xs ht)
  rwa [show (XV.map id)=id from funext XV.map_id,List.map_id] at this
 ·refine ⟨hx'.jj,hx'.os,hx'.tape,hx'.output,hx'.size,hx'.keep,hx'.jn,by simpa using hx.len,fun c o k hc hk=>?_,fun c o hl hc hsm=>?_⟩
  ·rcases (hst c o).1 hc with ⟨rfl,rfl⟩|⟨hne,hc⟩
   ·exact .inl (Nat.le_trans hx.size (hv k hk))
   ·refine hx.own c o k hc ?_
    unfold Own at hk ⊢
    rwa [Hd.push_ne hne,Hd.push_xne hne] at hk
  ·rcases (hst c o).1 hc with ⟨rfl,rfl⟩|⟨hne,hc⟩
   ·have:=h.m;simp only at this;omega
   ·obtain ⟨o',h1,h2,h3⟩:=hx.hdr c o hl hc hsm
    exact ⟨o',h1,h2,(Hd.push_ne hne).trans h3⟩
theorem Rel.pushNone {E:En} {η:Hd} {J:Nat→Prop} {n m:Nat} {env:List (Nat × List XV)} {st:z0q} {a:Act} {w:World} (hr:Rel G E η J ⟨n,m,env,st⟩ a w):Rel G E η J ⟨n,m,env,st++[none]⟩ a w:=by
 have look:∀ (c:Nat) (o':Obj'),(st++[none])[c]?=some (some o')→st[c]?=some (some o'):=fun c o' hc=>by
  rw [List.getElem?_append] at hc
  split at hc
  ·exact hc
  ·rename_i h
   rcases Nat.eq_zero_or_pos (c - st.length) with h0|h0
   ·rw [h0] at hc;simp at hc
   ·rw [List.getElem?_eq_none (by simp;omega)] at hc;cases hc
 have hl:st.length≤(st++[none]).length:=by simp
 exact ⟨hr.size,hr.m,hr.defers,hr.env,⟨fun c hc=>Nat.lt_of_lt_of_le (hr.ok.len c hc) hl,hr.ok.jlt,fun c o hc=>hr.ok.obj c o (look c o hc),fun c d o1 o2 k hc hd=>hr.ok.dis c d o1 o2 k (look c o1 hc) (look d o2 hd),fun c o k hc=>hr.ok.jd c o k (look c o hc),hr.ok.glob⟩,
  ⟨hr.ex.jj,hr.ex.os,hr.ex.tape,hr.ex.output,hr.ex.size,hr.ex.keep,hr.ex.jn,Nat.le_trans hr.ex.len hl,fun c o k hc=>hr.ex.own c o k (look c o hc),fun c o hl' hc=>hr.ex.hdr c o hl' (look c o hc)⟩⟩
theorem z047 {o:Oper} {n m t:Nat} {env:List (Nat × List XV)} {st:z0q} {x:List XV} {ob:Obj'} {K:Sx→Prop} (hd:o.dst=some t) (ht:t<n) (h:BirF P G o ⟨n,m,env,st⟩ st.length ob x) (hk:K ⟨n,m,(t,x)::env,st++[some ob]⟩):OpT P G o ⟨n,m,env,st⟩ K:=by
 intro E η J a w hr K' Q' hK
 refine h E η J a w hr K' Q' (fun v w' J' hg q=>?_)
 have hdb:¬ η.d st.length:=fun h'=>by have:=hr.ok.len _ h';simp at this
 obtain ⟨h0,q1,q2,q3,q4⟩:=q hdb
 have hm:m≤st.length:=by
  have h1:=hr.m
  have h2:=hr.ex.len
  simp only at h1 h2
  omega
 have hnew:=hr.pushNone.bornJ hdb (by simp) hm hg q1 q2 q3
 have e:(st++[none]).set st.length (some ob)=st++[some ob]:=by
  rw [List.set_append];simp
 rw [e] at hnew
 rw [hd]
 exact hK _ _ _ J' _ hk (hnew.put ht q4)
theorem Rel.born {E:En} {η:Hd} {J:Nat→Prop} {n m:Nat} {env:List (Nat × List XV)} {st:z0q} {a:Act} {w w':World} {b:Nat} {v:Value} {ob:Obj'} (h:Rel G E η J ⟨n,m,env,st⟩ a w) (hd:¬ η.d b) (hb:st[b]?=some none) (hm:m≤b)
  (os:w'.os=w.os) (tape:w'.tape=w.tape) (output:w'.output=w.output) (hs:w.heap.size≤w'.heap.size) (hw:∀ k,k<w.heap.size→w'.heap[k]?=w.heap[k]?)
  (hv:∀ k,Own (η.push b v) b k→w.heap.size≤k) (hO:ObjR (η.push b v) J w' b ob):Rel G E (η.push b v) J ⟨n,m,env,st.set b (some ob)⟩ a w':=by
 have hlt:b<st.length:=(List.getElem?_eq_some_iff.1 hb).1
 have hst:∀ c o',(st.set b (some ob))[c]?=some (some o')↔(c=b∧o'=ob)∨(c≠b∧st[c]?=some (some o')):=fun c o'=>by
  by_cases e:c=b
  ·subst e
   rw [List.getElem?_set]
   simp [hlt,eq_comm]
  ·rw [List.getElem?_set_ne (Ne.symm e)]
   simp [e]
 have hf:∀ x u,BVr η J w x u→BVr (η.push b v) J w' x u:=fun x u hx=>BVr.push hd (fun k hk=>hw k (h.ok.jlt k hk)) hx
 have hx:=h.ex
 refine ⟨h.size,h.m,h.defers,fun t xs ht=>?_,zxi h.ok hd hst (by simp) (by simpa using hlt) hs hw hv hO,?_⟩
 ·have:=Rs.map (f:=id) hf (h.env t xs ht)
  rwa [show (XV.map id)=id from funext XV.map_id,List.map_id] at this
 ·refine ⟨hx.jj,os.trans hx.os,tape.trans hx.tape,output.trans hx.output,Nat.le_trans hx.size hs,fun k hk hn=>(hw k (Nat.lt_of_lt_of_le hk hx.size)).trans (hx.keep k hk hn),hx.jn,by simpa using hx.len,fun c o k hc hk=>?_,fun c o hl hc hsm=>?_⟩
  ·rcases (hst c o).1 hc with ⟨rfl,rfl⟩|⟨hne,hc⟩
   ·exact .inl (Nat.le_trans hx.size (hv k hk))
   ·refine hx.own c o k hc ?_
    unfold Own at hk ⊢
    rwa [Hd.push_ne hne,Hd.push_xne hne] at hk
  ·rcases (hst c o).1 hc with ⟨rfl,rfl⟩|⟨hne,hc⟩
   ·have:=h.m;simp only at this;omega
   ·obtain ⟨o',h1,h2,h3⟩:=hx.hdr c o hl hc hsm
    exact ⟨o',h1,h2,(Hd.push_ne hne).trans h3⟩
def ordB (ops:Array Oper):List Ent→Bool
 | []=>true
 | e::T'=>(match ops[e.i]? with
  | some o=>o.after.toList.all fun ed=>!Region.binds .any ed || T'.any (fun f=>f.i==ed.on)
  | none=>false)&&ordB ops T'
theorem z02t {T:List Ent} {lst:Array Bool} (ho:ordB ops T=true) (hs:lst.size=ops.size) (hr:Region.ready .any ops lst=[]):∀ e∈T,onL lst e.i=true:=by
 induction T with
 | nil=>intro e he;cases he
 | cons e T ih =>
  simp only [ordB,Bool.and_eq_true] at ho
  have iht:=ih ho.2
  intro f hf
  rcases List.mem_cons.1 hf with rfl|hf
  ·cases hop:ops[f.i]? with
   | none=>rw [hop] at ho;simp at ho
   | some o =>
    rw [hop] at ho
    have h1:=List.all_eq_true.1 ho.1
    by_cases hon:onL lst f.i=true
    ·exact hon
    ·have hlt:f.i<ops.size:=(Array.getElem?_eq_some_iff.1 hop).1
     have:f.i∈Region.ready .any ops lst:=by
      rw [mem_ready]
      refine ⟨?_,o,hop,fun ed hed hb=>?_⟩
      ·unfold onL at hon
       rw [Array.getD_eq_getD_getElem?] at hon ⊢
       rw [Array.getElem?_eq_getElem (by omega)] at hon ⊢
       simpa using hon
      ·have h2:=h1 ed (by simpa using hed)
       simp only [hb,Bool.not_true,Bool.false_or] at h2
       obtain ⟨g,hg,hge⟩:=List.any_eq_true.1 h2
       have:=iht g hg
       rw [show g.i=ed.on by simpa using hge] at this
       exact this
     rw [hr] at this
     cases this
  ·exact iht f hf
theorem zmz {T:List Ent} (hn:(T.map Ent.i).Nodup) {e f:Ent} (he:e∈T) (hf:f∈T) (h:e.i=f.i):e=f:=by
 induction T with
 | nil=>cases he
 | cons g T ih =>
  simp only [List.map_cons,List.nodup_cons] at hn
  rcases List.mem_cons.1 he with he1|he1 <;> rcases List.mem_cons.1 hf with hf1|hf1
  ·rw [he1,hf1]
  ·exact (hn.1 (List.mem_map.2 ⟨f,hf1,by rw [← h,he1]⟩)).elim
  ·exact (hn.1 (List.mem_map.2 ⟨e,he1,by rw [h,hf1]⟩)).elim
  ·exact ih hn.2 he1 hf1
theorem zxr {n m:Nat} {env0:List (Nat × List XV)} {T:List Ent} {st:z0q} {K:Sx→Prop} {W:List (List Bool)} (hW:wOk ops W=true) (hN:(T.map Ent.i).Nodup) (hO:ordB ops T=true)
  (hV:∀ A e T',T=A++e::T'→(∃ h∈T,h.k=.heavy∧waits W e.i h.i=true)∨e.k=.heavy∨zll P G ops W n m env0 st A e T')
  (hB:∀ e∈T,∀ b o,e.k=.birth b o→m≤b)
  (hH:∀ lst i,Good ops T lst→i∈Region.ready .any ops lst→(∀ e∈T,e.i≠i)→∀ E η J a w,Rel G E η J ⟨n,m,envT (onL lst) env0 T,zaq (onL lst) T st⟩ a w→zqr T lst η →
   ∀ (Q':Exit→Act→World→Prop) (fuel:Nat),(∀ a' w' η' J' s',K s'→Rel G E η' J' s' a' w'→Q' .normal a' w')→ops.size≤fuel+1+cnt ops lst→wpOp P ops Q' i (wpAny P .any ops Q' fuel (lst.setIfInBounds i true)) a w)
  (hE:(∃ lst,Good ops T lst∧Region.ready .any ops lst=[])→K ⟨n,m,envT All env0 T,st⟩):DrT P G ops n m env0 T st K:=by
 have main:∀ d (lst:Array Bool),(T.filter fun e=>!onL lst e.i).length=d→Good ops T lst→∀ E η J a w,Rel G E η J ⟨n,m,envT (onL lst) env0 T,zaq (onL lst) T st⟩ a w→zqr T lst η →
   ∀ (Q':Exit→Act→World→Prop) (fuel:Nat),(∀ a' w' η' J' s',K s'→Rel G E η' J' s' a' w'→Q' .normal a' w')→ops.size≤fuel+cnt ops lst→wpAny P .any ops Q' fuel lst a w:=by
  intro d
  induction d using Nat.strongRecOn with
  | _ d ih =>
   intro lst hd hG E η J a w hr hu Q' fuel hK hf
   have hend:Region.ready .any ops lst=[]→Q' .normal a w:=fun hnil=>by
    have hall:=z02t hO hG.size hnil
    refine hK a w η J _ (hE ⟨lst,hG,hnil⟩) ?_
    rw [znf st hall] at hr
    obtain ⟨η',J',hr'⟩:=zpe (env:=envT All env0 T) (fun t xs ht=>by rw [zik (on':=All) (fun f hf _=>hall f hf)];exact ht) E η J a w hr
    exact ⟨hr.size,hr.m,hr.defers,fun t xs ht=>hr.env t xs (by
     rw [show (⟨n,m,envT All env0 T,st⟩:Sx).env=envT All env0 T from rfl] at ht
     show lk (envT (onL lst) env0 T) t=some xs
     rw [zik (on':=All) (fun f hf _=>hall f hf)];exact ht),hr.ok,hr.ex⟩
   cases fuel with
   | zero =>
    have hnil:Region.ready .any ops lst=[]:=by
     cases hrd:Region.ready .any ops lst with
     | nil=>rfl
     | cons i r=>have:=(zse hG.size (i:=i) (by rw [hrd];exact List.mem_cons_self)).2;omega
    exact ⟨hnil,hend hnil⟩
   | succ fuel =>
    refine ⟨hend,fun i hi=>?_⟩
    by_cases hex:∃ e∈T,e.i=i
    case neg=>exact hH lst i hG hi (fun e he h=>hex ⟨e,he,h⟩) E η J a w hr hu Q' fuel hK (by omega)
    obtain ⟨e,he,rfl⟩:=hex
    obtain ⟨A,T',hT⟩:=List.append_of_mem he
    obtain ⟨hoff0,oi,hoi,hpre⟩:=mem_ready.1 hi
    have hlt:e.i<ops.size:=(Array.getElem?_eq_some_iff.1 hoi).1
    have hoff:onL lst e.i=false:=by
     unfold onL
     rw [Array.getD_eq_getD_getElem?] at hoff0 ⊢
     rw [Array.getElem?_eq_getElem (by rw [hG.size];exact hlt)] at hoff0 ⊢
     exact hoff0
    have hFO:zll P G ops W n m env0 st A e T':=by
     rcases hV A e T' hT with ⟨h,hh,hk,hw⟩|hk|hF
     ·have:=zhj hW hG.closed h.i hw (hG.heavy h hh hk)
      unfold onL at hoff
      rw [this] at hoff;cases hoff
     ·rw [hG.heavy e he hk] at hoff;cases hoff
     ·exact hF
    obtain ⟨o,t,ks,ho,hd1,ht1,htn,hA,hB',hborn,hkind⟩:=hFO
    rw [hoi] at ho;injection ho with ho;subst ho
    have offA:∀ u∈names ops e.i,∀ f∈A,f.t=some u→onL lst f.i=false:=fun u hu f hf hft=>by
     have h1:=List.all_eq_true.1 hA f hf
     simp only [hft,Bool.or_eq_true,Bool.not_eq_true'] at h1
     rcases h1 with h1|h1
     ·have:(names ops e.i).contains u=true:=by simpa using hu
      rw [this] at h1;cases h1
     ·cases hon:onL lst f.i with
      | false=>rfl
      | true=>have:=zhj hW hG.closed f.i h1 hon;unfold onL at hoff;rw [this] at hoff;cases hoff
    have onB:∀ u∈names ops e.i,∀ f∈T',f.t=some u→onL lst f.i=true:=fun u hu f hf hft=>by
     have h1:=List.all_eq_true.1 hB' f hf
     simp only [hft,Bool.or_eq_true,Bool.not_eq_true'] at h1
     rcases h1 with h1|h1
     ·have:(names ops e.i).contains u=true:=by simpa using hu
      rw [this] at h1;cases h1
     ·exact zgr hW hG.closed h1 hi
    have hR:Rel G E η J ⟨n,m,zfw (names ops e.i) (envT All env0 T'),kill ks st⟩ a w:=by
     have h1:Rel G E η J ⟨n,m,zfw (names ops e.i) (envT All env0 T'),zaq (onL lst) T st⟩ a w:=⟨hr.size,hr.m,hr.defers,fun u xs hxs=>hr.env u xs (by
      obtain ⟨h2,h3⟩:=zil hxs
      show lk (envT (onL lst) env0 T) u=some xs
      rw [hT,zu7 (offA u h2) hoff (onB u h2)]
      exact h3),hr.ok,hr.ex⟩
     have hl:(kill ks st).length=(zaq (onL lst) T st).length:=by rw [zu9,zcd]
     have look:∀ (c:Nat) (o':Obj'),(kill ks st)[c]?=some (some o')→(zaq (onL lst) T st)[c]?=some (some o'):=fun c o' hc=>by
      obtain ⟨h2,h3⟩:=zxq hc
      rw [zgs]
      have:T.any (z8g (onL lst) c)=false:=by
       rw [List.any_eq_false]
       intro f hf hub
       unfold z8g at hub
       split at hub
       ·rename_i b ob hk
        simp only [Bool.and_eq_true,beq_iff_eq,Bool.not_eq_true'] at hub
        have h4:=List.all_eq_true.1 hborn f (by rw [← hT];exact hf)
        rw [hk] at h4
        simp only [Bool.or_eq_true] at h4
        rcases h4 with h4|h4
        ·exact h2 (by rw [← hub.1];simpa using h4)
        ·have:=zgr hW hG.closed h4 hi
         unfold onL at hub
         rw [this] at hub
         exact absurd hub.2 (by simp)
       ·cases hub
      rw [this]
      exact h3
     exact ⟨h1.size,h1.m,h1.defers,h1.env,⟨fun b hb=>by show b<(kill ks st).length;rw [hl];exact h1.ok.len b hb,h1.ok.jlt,fun c o hc=>h1.ok.obj c o (look c o hc),fun c d o1 o2 k hc hd=>h1.ok.dis c d o1 o2 k (look c o1 hc) (look d o2 hd),fun c o k hc=>h1.ok.jd c o k (look c o hc),h1.ok.glob⟩,
      ⟨h1.ex.jj,h1.ex.os,h1.ex.tape,h1.ex.output,h1.ex.size,h1.ex.keep,h1.ex.jn,by show _≤(kill ks st).length;rw [hl];exact h1.ex.len,fun c o k hc=>h1.ex.own c o k (look c o hc),fun c o hl' hc=>h1.ex.hdr c o hl' (look c o hc)⟩⟩
    have onset:∀ j,onL (lst.setIfInBounds e.i true) j=(onL lst j || decide (j=e.i)):=zxp hG.size hlt
    have hG':Good ops T (lst.setIfInBounds e.i true):=⟨by simp [hG.size],fun j hj=>by
     rw [onset] at hj
     simp only [Bool.or_eq_true,decide_eq_true_eq] at hj
     rcases hj with hj|rfl
     ·exact hG.sub j hj
     ·exact ⟨e,he,rfl⟩,fun f hf hk=>by rw [onset,hG.heavy f hf hk];rfl,hG.closed.set hi⟩
    have hcnt:=(zse hG.size hi).1
    have hless:(T.filter fun f=>!onL (lst.setIfInBounds e.i true) f.i).length<d:=by
     rw [← hd]
     have h1:∀ f:Ent,(!onL (lst.setIfInBounds e.i true) f.i)=(!onL lst f.i&&!decide (f.i=e.i)):=fun f=>by rw [onset];cases onL lst f.i <;> simp
     simp only [h1]
     rw [hT,List.filter_append,List.filter_append,List.length_append,List.length_append,List.filter_cons_of_neg (by simp),List.filter_cons_of_pos (by simp [hoff])]
     have mono:∀ l:List Ent,(l.filter fun f=>!onL lst f.i&&!decide (f.i=e.i)).length≤(l.filter fun f=>!onL lst f.i).length:=fun l=>by
      induction l with
      | nil=>simp
      | cons x l ihl =>
       simp only [List.filter_cons]
       cases onL lst x.i <;> by_cases hx:x.i=e.i <;> simp [hx] <;> first|exact ihl|omega
     have m1:=mono A
     have m2:=mono T'
     simp only [List.length_cons]
     omega
    have tin:t∈names ops e.i:=by
     unfold names
     rw [hoi]
     simp [hd1]
    have henv:∀ u xs,lk (envT (onL (lst.setIfInBounds e.i true)) env0 T) u=some xs→lk ((t,e.x)::envT (onL lst) env0 T) u=some xs:=fun u xs hxs=>by
     simp only [lk]
     by_cases hut:t=u
     ·subst hut
      rw [if_pos rfl]
      rw [hT,zu8 ht1 (by rw [onset];simp) (fun f hf hft=>by
       rw [onset,offA t tin f hf hft]
       simp only [Bool.false_or,decide_eq_false_iff_not]
       intro hfe
       have:=zmz hN (e:=f) (f:=e) (by rw [hT];simp [hf]) he hfe
       subst this
       rw [hT] at hN
       simp only [List.map_append,List.map_cons,List.nodup_append,List.nodup_cons] at hN
       exact (hN.2.2 _ (List.mem_map.2 ⟨f,hf,rfl⟩) _ List.mem_cons_self) rfl)] at hxs
      exact hxs
     ·rw [if_neg hut]
      rw [← hxs]
      refine zik (fun f hf hft=>?_)
      rw [onset]
      have:f.i≠e.i:=fun hfe=>by
       have:=zmz hN hf he hfe
       subst this
       rw [ht1] at hft;injection hft with hft;exact hut hft
      simp [this]
    have hkill:(∀ b ob,e.k≠.birth b ob)→zaq (onL (lst.setIfInBounds e.i true)) T st=zaq (onL lst) T st:=fun hne=>zgt st (fun f hf b ob hk=>by
     rw [onset]
     have:f.i≠e.i:=fun hfe=>by
      have:=zmz hN hf he hfe
      subst this
      exact hne b ob hk
     simp [this])
    have goOn:∀ (v:Value) (w':World) (η':Hd) (J':Nat→Prop),Rel G E η' J' ⟨n,m,(t,e.x)::envT (onL lst) env0 T,zaq (onL (lst.setIfInBounds e.i true)) T st⟩ (a.put (some t) v) w'→zqr T (lst.setIfInBounds e.i true) η'→wpAny P .any ops Q' fuel (lst.setIfInBounds e.i true) (a.put oi.dst v) w':=fun v w' η' J' h1 h2=>by
     rw [hd1]
     exact ih _ hless _ rfl hG' E η' J' _ w' ⟨h1.size,h1.m,h1.defers,fun u xs hxs=>h1.env u xs (henv u xs hxs),h1.ok,h1.ex⟩ h2 Q' fuel hK (by omega)
    have hu':zqr T (lst.setIfInBounds e.i true) η:=fun f hf b ob hk hon=>hu f hf b ob hk (by rw [onset] at hon;simp only [Bool.or_eq_false_iff] at hon;exact hon.1)
    unfold wpOp
    rw [hoi]
    simp only
    cases hk:e.k with
    | heavy=>rw [hk] at hkind;exact hkind.elim
    | light =>
     rw [hk] at hkind
     obtain ⟨hg,hlt'⟩:=hkind
     rw [hg.wanted hR,if_pos rfl]
     left
     refine hlt' E η J a w hR _ Q' (fun v w' J' hgr hv=>goOn v w' η J' ?_ hu')
     rw [hkill (fun b ob h=>by rw [hk] at h;cases h)]
     exact (hr.grow hgr).put (by simpa using htn) hv
    | skip =>
     rw [hk] at hkind
     obtain ⟨hg,hx⟩:=hkind
     rw [hg.wanted hR,if_neg (by simp)]
     refine goOn undef w η J ?_ hu'
     rw [hkill (fun b ob h=>by rw [hk] at h;cases h)]
     rcases hx with hx|hx
     ·rw [hx];exact hr.putU (by simpa using htn) undef
     ·rw [hx];exact hr.put (by simpa using htn) (x:=[]) (v:=undef) ⟨[],rfl,L2.nil⟩
    | birth b ob =>
     rw [hk] at hkind
     obtain ⟨hg,hbir,hsb,huniq⟩:=hkind
     rw [hg.wanted hR,if_pos rfl]
     have hdb:¬ η.d b:=hu e he b ob hk hoff
     have hfree:(zaq (onL lst) T st)[b]?=some none:=by
      rw [zgs]
      have:T.any (z8g (onL lst) b)=true:=List.any_eq_true.2 ⟨e,he,by simp [z8g,hk,hoff]⟩
      rw [this,if_pos rfl,if_pos (List.getElem?_eq_some_iff.1 hsb).1]
     have hset:zaq (onL (lst.setIfInBounds e.i true)) T st=(zaq (onL lst) T st).set b (some ob):=by
      apply List.ext_getElem?
      intro c
      rw [zgs]
      by_cases hc:b=c
      ·subst hc
       have:T.any (z8g (onL (lst.setIfInBounds e.i true)) b)=false:=by
        rw [List.any_eq_false]
        intro f hf hub
        by_cases hfe:f=e
        ·subst hfe;simp [z8g,hk,onset] at hub
        ·have hf':f∈A++T':=by
          rw [hT] at hf
          simp only [List.mem_append,List.mem_cons] at hf ⊢
          rcases hf with hf|hf|hf
          ·exact .inl hf
          ·exact absurd hf hfe
          ·exact .inr hf
         have h3:=List.all_eq_true.1 huniq f hf'
         unfold z8g at hub
         split at hub
         ·rename_i c oc hkf
          rw [hkf] at h3
          simp only [Bool.and_eq_true,beq_iff_eq] at hub
          simp [hub.1] at h3
         ·cases hub
       rw [this]
       simp only [Bool.false_eq_true,if_false]
       rw [List.getElem?_set,zcd]
       simp only [if_true]
       rw [if_pos (List.getElem?_eq_some_iff.1 hsb).1]
       exact hsb
      ·rw [List.getElem?_set_ne hc,zgs]
       have:T.any (z8g (onL (lst.setIfInBounds e.i true)) c)=T.any (z8g (onL lst) c):=by
        have h4:∀ f∈T,z8g (onL (lst.setIfInBounds e.i true)) c f=z8g (onL lst) c f:=fun f hf=>by
         unfold z8g
         split
         ·rename_i c' oc hkf
          rw [onset]
          by_cases hfe:f.i=e.i
          ·have:=zmz hN hf he hfe
           subst this
           rw [hk] at hkf
           injection hkf with hkf
           subst hkf
           simp [hc]
          ·simp [hfe]
         ·rfl
        rw [Bool.eq_iff_iff,List.any_eq_true,List.any_eq_true]
        constructor
        ·rintro ⟨f,hf,h5⟩;exact ⟨f,hf,by rw [← h4 f hf];exact h5⟩
        ·rintro ⟨f,hf,h5⟩;exact ⟨f,hf,by rw [h4 f hf];exact h5⟩
       rw [this]
     left
     refine hbir E η J a w hR _ Q' (fun v w' J' hgr q6=>?_)
     obtain ⟨hd0,q7,qj,q8,q9⟩:=q6 hdb
     refine goOn v w' (η.push b hd0) J' ?_ (fun f hf c oc hkf hon=>?_)
     ·rw [hset]
      have hnew:=hr.bornJ hdb hfree (hB e he b ob hk) hgr q7 qj q8
      exact hnew.put (by simpa using htn) q9
     ·have h6:=hu' f hf c oc hkf hon
      rintro (h7|rfl)
      ·exact h6 h7
      ·by_cases hfe:f=e
       ·subst hfe;rw [onset] at hon;simp at hon
       ·have hf':f∈A++T':=by
         rw [hT] at hf
         simp only [List.mem_append,List.mem_cons] at hf ⊢
         rcases hf with hf|hf|hf
         ·exact .inl hf
         ·exact absurd hf hfe
         ·exact .inr hf
        have h3:=List.all_eq_true.1 huniq f hf'
        rw [hkf] at h3
        simp at h3
 exact fun lst hG E η J a w hr hu Q' fuel hK hf=>main _ lst rfl hG E η J a w hr hu Q' fuel hK hf
end
end Go.Proofs.YtimbigpplbbjaaaGreatDoor.Abs

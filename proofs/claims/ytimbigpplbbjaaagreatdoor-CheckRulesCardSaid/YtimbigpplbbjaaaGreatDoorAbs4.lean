/- Abstract states of the machine: how a state goes on to the next one. -/
import Derived.Test.YtimbigpplbbjaaaGreatDoorAbs3
namespace Go.Proofs.YtimbigpplbbjaaaGreatDoor.Abs
open Go Go.RowKit
set_option linter.unusedVariables false
set_option linter.unusedSimpArgs false
section
variable {P:Program} {G:Nat→Option (List PV)}
theorem Ex.refl (η:Hd) (J:Nat→Prop) (w:World) (st:z0q):Ex η J w st η J w st where
 jj:=fun _ h=>h
 os:=rfl
 tape:=rfl
 output:=rfl
 size:=Nat.le_refl _
 keep:=fun _ _ _=>rfl
 jn:=fun _ h=>.inl h
 len:=Nat.le_refl _
 own:=fun b o k hb hk=>.inr ⟨b,o,hb,hk,fun h=>h⟩
 hdr:=fun b o _ hb hs=>⟨o,hb,hs,rfl⟩
theorem Ex.wst {η η':Hd} {J J':Nat→Prop} {w w':World} {st st':z0q} (A:Ex η J w st η' J' w' st') {k:Nat} (h:Wst η' st' k):w.heap.size≤k∨Wst η st k:=by
 obtain ⟨b,o,hb,hm,hk⟩:=h
 rcases A.own b o k hb hk with h|⟨c,o',hc,hk',hm'⟩
 ·exact .inl h
 ·exact .inr ⟨c,o',hc,hm' hm,hk'⟩
theorem Ex.trans {η η' η'':Hd} {J J' J'':Nat→Prop} {w w' w'':World} {st st' st'':z0q} (A:Ex η J w st η' J' w' st') (B:Ex η' J' w' st' η'' J'' w'' st''):Ex η J w st η'' J'' w'' st'':=by
 refine ⟨fun b h=>B.jj b (A.jj b h),B.os.trans A.os,B.tape.trans A.tape,B.output.trans A.output,Nat.le_trans A.size B.size,fun k hk hn=>?_,fun k hk=>?_,Nat.le_trans A.len B.len,fun b o k hb hk=>?_,fun b o hl hb hs=>?_⟩
 ·have h1:¬ Wst η' st' k:=fun h=>by
   rcases A.wst h with h|h
   ·omega
   ·exact hn h
  exact (B.keep k (Nat.lt_of_lt_of_le hk A.size) h1).trans (A.keep k hk hn)
 ·rcases B.jn k hk with h|h|h
  ·exact A.jn k h
  ·exact .inr (.inl (Nat.le_trans A.size h))
  ·rcases A.wst h with h|h
   ·exact .inr (.inl h)
   ·exact .inr (.inr h)
 ·rcases B.own b o k hb hk with h|⟨c,o',hc,hk',hm'⟩
  ·exact .inl (Nat.le_trans A.size h)
  ·rcases A.own c o' k hc hk' with h|⟨d,o'',hd,hk'',hm''⟩
   ·exact .inl h
   ·exact .inr ⟨d,o'',hd,hk'',fun h=>hm'' (hm' h)⟩
 ·obtain ⟨o',hb',hs',he⟩:=B.hdr b o (Nat.lt_of_lt_of_le hl A.len) hb hs
  obtain ⟨o'',hb'',hs'',he'⟩:=A.hdr b o' hl hb' hs'
  exact ⟨o'',hb'',hs'',he.trans he'⟩
theorem Rel.step {E:En} {η η':Hd} {J J':Nat→Prop} {s:Sx} {a:Act} {w w':World} {st':z0q} (h:Rel G E η J s a w) (f:BV→BV) (hf:∀ x v,BVr η J w x v→BVr η' J' w' (f x) v)
  (ok:Ok G η' J' w' st') (ex:Ex η J w s.st η' J' w' st'):Rel G E η' J' ⟨s.n,s.m,z5b f s.env,st'⟩ a w' where
 size:=h.size
 m:=h.m
 defers:=h.defers
 env:=by
  intro t xs ht
  rw [show (⟨s.n,s.m,z5b f s.env,st'⟩:Sx).env=z5b f s.env from rfl,zn7] at ht
  cases hl:lk s.env t with
  | none=>rw [hl] at ht;cases ht
  | some ys =>
   rw [hl] at ht
   injection ht with ht
   subst ht
   exact Rs.map hf (h.env t ys hl)
 ok:=ok
 ex:=h.ex.trans ex
theorem XV.map_id:∀ x:XV,x.map id=x
 | .u=>rfl
 | .c x=>rfl
 | .agg xs=>by simp [XV.map]
 | .fn g a b=>by simp [XV.map]
theorem z7x (env:List (Nat × List XV)):z5b id env=env:=by
 unfold z5b
 have:(fun (p:Nat × List XV)=>(p.1,p.2.map (XV.map id)))=id:=by
  funext ⟨t,xs⟩
  simp only [id,Prod.mk.injEq,true_and]
  rw [show (XV.map id)=id from funext XV.map_id,List.map_id]
 show List.map (fun (p:Nat × List XV)=>(p.1,p.2.map (XV.map id))) env=env
 rw [this,List.map_id]
theorem Rel.step' {E:En} {η η':Hd} {J J':Nat→Prop} {s:Sx} {a:Act} {w w':World} {st':z0q} (h:Rel G E η J s a w) (hf:∀ x v,BVr η J w x v→BVr η' J' w' x v)
  (ok:Ok G η' J' w' st') (ex:Ex η J w s.st η' J' w' st'):Rel G E η' J' ⟨s.n,s.m,s.env,st'⟩ a w':=by
 have:=h.step id hf ok ex
 rwa [z7x] at this
def Hd.push (η:Hd) (n:Nat) (v:Value):Hd:=⟨fun b=>if b=n then v else η.f b,fun b=>η.d b∨b=n,fun b=>if b=n then [] else η.x b⟩
theorem Hd.push_ne {η:Hd} {n:Nat} {v:Value} {b:Nat} (h:b≠n):(η.push n v).f b=η.f b:=by
 unfold Hd.push;exact if_neg h
theorem Hd.push_n {η:Hd} {n:Nat} {v:Value}:(η.push n v).f n=v:=by
 unfold Hd.push;exact if_pos rfl
theorem Hd.push_xne {η:Hd} {n:Nat} {v:Value} {b:Nat} (h:b≠n):(η.push n v).x b=η.x b:=by
 unfold Hd.push;exact if_neg h
theorem Hd.push_x {η:Hd} {n:Nat} {v:Value}:(η.push n v).x n=[]:=by
 unfold Hd.push;exact if_pos rfl
theorem BVr.push {η:Hd} {J:Nat→Prop} {w w':World} {n:Nat} {v:Value} (hn:¬ η.d n) (hw:∀ b,J b→w'.heap[b]?=w.heap[b]?) {x:BV} {u:Value} (h:BVr η J w x u):BVr (η.push n v) J w' x u :=
 BVr.mono (fun _ h=>h) hw (fun b hb _=>⟨.inl hb,Hd.push_ne (fun e=>hn (e ▸ hb))⟩) h
def z043 (w:World) (v:Value):Prop:=v=.pointer (some ⟨w.heap.size,0,none⟩)∨∃ n cap,v=.slice (some ⟨w.heap.size,0,none⟩) n cap
theorem zxi {η:Hd} {J:Nat→Prop} {w w':World} {st st':z0q} {n:Nat} {v:Value} {o:Obj'} (h:Ok G η J w st) (hd:¬ η.d n) (hst:∀ b o',st'[b]?=some (some o')↔(b=n∧o'=o)∨(b≠n∧st[b]?=some (some o'))) (hl:st.length≤st'.length) (hn:n<st'.length)
  (hs:w.heap.size≤w'.heap.size) (hw:∀ k,k<w.heap.size→w'.heap[k]?=w.heap[k]?) (hv:∀ k,Own (η.push n v) n k→w.heap.size≤k) (hO:ObjR (η.push n v) J w' n o):Ok G (η.push n v) J w' st':=by
 have hJw:∀ k,J k→w'.heap[k]?=w.heap[k]?:=fun k hk=>hw k (h.jlt k hk)
 have own:∀ b k,b≠n→Own (η.push n v) b k→Own η b k:=fun b k hb hk=>by unfold Own at hk;rwa [Hd.push_ne hb,Hd.push_xne hb] at hk
 have id_map:∀ o':Obj',o'.map id=o':=fun o'=>by cases o' <;> simp [Obj'.map]
 refine ⟨fun b hb=>?_,fun k hk=>Nat.lt_of_lt_of_le (h.jlt k hk) hs,fun b o' hb=>?_,fun b c o1 o2 k hb hc hbk hck=>?_,fun b o' k hb hk=>?_,Glob.mono h.glob (fun _ h=>h) hJw⟩
 ·rcases hb with hb|rfl
  ·exact Nat.lt_of_lt_of_le (h.len b hb) hl
  ·exact hn
 ·rcases (hst b o').1 hb with ⟨rfl,rfl⟩|⟨hne,hb⟩
  ·exact hO
  ·have:=(h.obj b o' hb).map (f:=id) (η':=η.push n v) (J':=J) (w':=w') (Hd.push_ne hne) (Hd.push_xne hne) (fun k hk=>hw k ((h.obj b o' hb).lt hk)) (fun x u hx=>BVr.push hd hJw hx) (fun p u hp=>Rd.mono (fun _ h=>h) hJw hp)
   rwa [id_map] at this
 ·rcases (hst b o1).1 hb with ⟨rfl,rfl⟩|⟨hne,hb'⟩ <;> rcases (hst c o2).1 hc with ⟨rfl,rfl⟩|⟨hne',hc'⟩
  ·rfl
  ·have:=(h.obj c o2 hc').lt (own _ _ hne' hck)
   have:=hv k hbk
   omega
  ·have:=(h.obj b o1 hb').lt (own _ _ hne hbk)
   have:=hv k hck
   omega
  ·exact h.dis b c o1 o2 k hb' hc' (own _ _ hne hbk) (own _ _ hne' hck)
 ·rcases (hst b o').1 hb with ⟨rfl,rfl⟩|⟨hne,hb'⟩
  ·intro hj
   have:=h.jlt k hj
   have:=hv k hk
   omega
  ·exact h.jd b o' k hb' (own _ _ hne hk)
theorem z044 {η:Hd} {J:Nat→Prop} {w w':World} {st st':z0q} {n:Nat} {v:Value} {o:Obj'} (hst:∀ b o',st'[b]?=some (some o')↔(b=n∧o'=o)∨(b≠n∧st[b]?=some (some o'))) (hl:st.length≤st'.length) (hnew:st.length≤n)
  (os:w'.os=w.os) (tape:w'.tape=w.tape) (output:w'.output=w.output) (hs:w.heap.size≤w'.heap.size) (hw:∀ k,k<w.heap.size→w'.heap[k]?=w.heap[k]?)
  (hv:∀ k,Own (η.push n v) n k→w.heap.size≤k):Ex η J w st (η.push n v) J w' st':=by
 refine ⟨fun _ h=>h,os,tape,output,hs,fun k hk _=>hw k hk,fun k hk=>.inl hk,hl,fun b o' k hb hk=>?_,fun b o' hlt hb hsm=>?_⟩
 ·rcases (hst b o').1 hb with ⟨rfl,rfl⟩|⟨hne,hb⟩
  ·exact .inl (hv k hk)
  ·refine .inr ⟨b,o',hb,?_,fun h=>h⟩
   unfold Own at hk ⊢
   rwa [Hd.push_ne hne,Hd.push_xne hne] at hk
 ·rcases (hst b o').1 hb with ⟨rfl,rfl⟩|⟨hne,hb⟩
  ·omega
  ·exact ⟨o',hb,hsm,Hd.push_ne hne⟩
theorem zbo {η:Hd} {w:World} {n:Nat} {v:Value} (hv:z043 w v) (k:Nat) (hk:Own (η.push n v) n k):w.heap.size≤k:=by
 unfold Own at hk
 rw [Hd.push_n,Hd.push_x] at hk
 rcases hv with rfl|⟨n,cap,rfl⟩
 ·rcases hk with hk|⟨n,cap,hk,_⟩|hk
  ·injection hk with hk;injection hk with hk;injection hk with hk;omega
  ·cases hk
  ·cases hk
 ·rcases hk with hk|⟨n',cap',hk,_⟩|hk
  ·cases hk
  ·injection hk with hk;injection hk with hk;injection hk with hk;omega
  ·cases hk
theorem znd (st:z0q) (o:Obj') (b:Nat) (o':Obj'):(st++[some o])[b]?=some (some o')↔(b=st.length∧o'=o)∨(b≠st.length∧st[b]?=some (some o')):=by
 rw [List.getElem?_append]
 split
 ·rename_i h
  constructor
  ·intro hb;exact .inr ⟨by omega,hb⟩
  ·rintro (⟨rfl,_⟩|⟨_,hb⟩)
   ·omega
   ·exact hb
 ·rename_i h
  constructor
  ·intro hb
   have:b - st.length=0:=by
    rcases Nat.eq_zero_or_pos (b - st.length) with h|h
    ·exact h
    ·rw [List.getElem?_eq_none (by simp;omega)] at hb;cases hb
   rw [this] at hb
   simp at hb
   exact .inl ⟨by omega,hb.symm⟩
  ·rintro (⟨rfl,rfl⟩|⟨_,hb⟩)
   ·simp
   ·have:=(List.getElem?_eq_some_iff.1 hb).1;omega
theorem Rel.new {E:En} {η:Hd} {J:Nat→Prop} {s:Sx} {a:Act} {w w':World} {v:Value} {o:Obj'} (h:Rel G E η J s a w) (os:w'.os=w.os) (tape:w'.tape=w.tape) (output:w'.output=w.output) (hs:w.heap.size≤w'.heap.size) (hw:∀ k,k<w.heap.size→w'.heap[k]?=w.heap[k]?)
  (hv:∀ k,Own (η.push s.st.length v) s.st.length k→w.heap.size≤k) (hO:ObjR (η.push s.st.length v) J w' s.st.length o):Rel G E (η.push s.st.length v) J ⟨s.n,s.m,s.env,s.st++[some o]⟩ a w':=by
 have hd:¬ η.d s.st.length:=fun h'=>by have:=h.ok.len _ h';omega
 exact h.step' (fun x u hx=>BVr.push hd (fun k hk=>hw k (h.ok.jlt k hk)) hx) (zxi h.ok hd (znd s.st o) (by simp) (by simp) hs hw hv hO) (z044 (znd s.st o) (by simp) (Nat.le_refl _) os tape output hs hw hv)
def z99 (f:BV→BV) (st:z0q):z0q:=st.map (Option.map (Obj'.map f))
theorem zk9 (f:BV→BV) (st:z0q) (b:Nat) (o:Obj'):(z99 f st)[b]?=some (some o)↔∃ o',st[b]?=some (some o')∧o=o'.map f:=by
 unfold z99
 rw [List.getElem?_map]
 cases h:st[b]? with
 | none=>simp
 | some x =>
  cases x with
  | none=>simp
  | some o'=>simp [eq_comm]
theorem zf7 (st:z0q):z99 id st=st:=by
 unfold z99
 have:(Option.map (Obj'.map id))=id:=by
  funext x
  cases x with
  | none=>rfl
  | some o=>cases o <;> simp [Obj'.map]
 rw [this,List.map_id]
structure Turn (G:Nat→Option (List PV)) (η:Hd) (J:Nat→Prop) (w:World) (st:z0q) (b:Nat) (o:Obj') (f:BV→BV) (η':Hd) (J':Nat→Prop) (w':World) (new:Option Obj'):Prop where
 at_:st[b]?=some (some o)
 wr:o.mut=true
 n:∀ c,η'.d c→η.d c
 hη:∀ c,c≠b→η'.f c=η.f c
 hx:∀ c,c≠b→η'.x c=η.x c
 jj:∀ k,J k→J' k
 os:w'.os=w.os
 tape:w'.tape=w.tape
 output:w'.output=w.output
 size:w.heap.size≤w'.heap.size
 keep:∀ k,k<w.heap.size→¬ Own η b k→w'.heap[k]?=w.heap[k]?
 hf:∀ x v,BVr η J w x v→BVr η' J' w' (f x) v
 hO:∀ o',new=some o'→ObjR η' J' w' b o'∧o'.mut=true∧(o'.same=true→o.same=true∧η'.f b=η.f b)
 own:∀ o' k,new=some o'→Own η' b k→(w.heap.size≤k∨Own η b k)∧¬ J' k
 jn:∀ k,J' k→J k∨Own η b k
theorem Turn.ok {η η':Hd} {J J':Nat→Prop} {w w':World} {st:z0q} {b:Nat} {o:Obj'} {f:BV→BV} {new:Option Obj'} (t:Turn G η J w st b o f η' J' w' new) (h:Ok G η J w st) :
  Ok G η' J' w' ((z99 f st).set b new):=by
 have hJw:∀ k,J k→w'.heap[k]?=w.heap[k]?:=fun k hk=>t.keep k (h.jlt k hk) (fun ho=>h.jd b o k t.at_ ho hk)
 have look:∀ c o',((z99 f st).set b new)[c]?=some (some o')→(c=b∧new=some o')∨(c≠b∧∃ o1,st[c]?=some (some o1)∧o'=o1.map f):=fun c o' hc=>by
  by_cases e:c=b
  ·subst e
   rw [List.getElem?_set] at hc
   simp only [if_true] at hc
   split at hc
   ·injection hc with hc;exact .inl ⟨rfl,hc⟩
   ·cases hc
  ·rw [List.getElem?_set_ne (fun h=>e h.symm)] at hc
   exact .inr ⟨e,(zk9 f st c o').1 hc⟩
 have ownc:∀ c k,c≠b→Own η' c k→Own η c k:=fun c k hc hk=>by unfold Own at hk;rwa [t.hη c hc,t.hx c hc] at hk
 have far:∀ c o1 k,c≠b→st[c]?=some (some o1)→Own η c k→w'.heap[k]?=w.heap[k]?:=fun c o1 k hc h1 hk =>
  t.keep k ((h.obj c o1 h1).lt hk) (fun hb=>hc (h.dis c b o1 o k h1 t.at_ hk hb))
 refine ⟨fun c hc=>by simpa [z99] using h.len c (t.n c hc),fun k hk=>?_,fun c o' hc=>?_,fun c d o1 o2 k hc hd hck hdk=>?_,fun c o' k hc hk hj=>?_,Glob.mono h.glob t.jj hJw⟩
 ·rcases t.jn k hk with hk|hk
  ·exact Nat.lt_of_lt_of_le (h.jlt k hk) t.size
  ·exact Nat.lt_of_lt_of_le ((h.obj b o t.at_).lt hk) t.size
 ·rcases look c o' hc with ⟨rfl,hn⟩|⟨hne,o1,h1,rfl⟩
  ·exact (t.hO o' hn).1
  ·exact (h.obj c o1 h1).map (t.hη c hne) (t.hx c hne) (fun k hk=>far c o1 k hne h1 hk) t.hf (fun p v hp=>Rd.mono t.jj hJw hp)
 ·rcases look c o1 hc with ⟨rfl,hn⟩|⟨hne,o1',h1,rfl⟩ <;> rcases look d o2 hd with ⟨rfl,hn'⟩|⟨hne',o2',h2,rfl⟩
  ·rfl
  ·rcases (t.own o1 k hn hck).1 with hk|hk
   ·have:=(h.obj d o2' h2).lt (ownc d k hne' hdk);omega
   ·exact absurd (h.dis d c o2' o k h2 t.at_ (ownc d k hne' hdk) hk) hne'
  ·rcases (t.own o2 k hn' hdk).1 with hk|hk
   ·have:=(h.obj c o1' h1).lt (ownc c k hne hck);omega
   ·exact absurd (h.dis c d o1' o k h1 t.at_ (ownc c k hne hck) hk) hne
  ·exact h.dis c d o1' o2' k h1 h2 (ownc c k hne hck) (ownc d k hne' hdk)
 ·rcases look c o' hc with ⟨rfl,hn⟩|⟨hne,o1,h1,rfl⟩
  ·exact (t.own o' k hn hk).2 hj
  ·rcases t.jn k hj with hj|hj
   ·exact h.jd c o1 k h1 (ownc c k hne hk) hj
   ·exact hne (h.dis c b o1 o k h1 t.at_ (ownc c k hne hk) hj)
theorem zhh (f:BV→BV) (o:Obj'):(o.map f).mut=o.mut:=by cases o <;> rfl
theorem zii (f:BV→BV) (o:Obj'):(o.map f).same=o.same:=by cases o <;> rfl
theorem Turn.ex {η η':Hd} {J J':Nat→Prop} {w w':World} {st:z0q} {b:Nat} {o:Obj'} {f:BV→BV} {new:Option Obj'} (t:Turn G η J w st b o f η' J' w' new) (h:Ok G η J w st) :
  Ex η J w st η' J' w' ((z99 f st).set b new):=by
 refine ⟨t.jj,t.os,t.tape,t.output,t.size,fun k hk hn=>t.keep k hk (fun ho=>hn ⟨b,o,t.at_,t.wr,ho⟩),fun k hk=>?_,by simp [z99],fun c o' k hc hk=>?_,fun c o' hl hc hs=>?_⟩
 ·rcases t.jn k hk with hk|hk
  ·exact .inl hk
  ·exact .inr (.inr ⟨b,o,t.at_,t.wr,hk⟩)
 ·by_cases e:c=b
  ·subst e
   rw [List.getElem?_set] at hc
   simp only [if_true] at hc
   split at hc
   ·injection hc with hc
    rcases (t.own o' k hc hk).1 with h1|h1
    ·exact .inl h1
    ·exact .inr ⟨c,o,t.at_,h1,fun _=>t.wr⟩
   ·cases hc
  ·rw [List.getElem?_set_ne (fun h=>e h.symm)] at hc
   obtain ⟨o1,h1,rfl⟩:=(zk9 f st c o').1 hc
   refine .inr ⟨c,o1,h1,?_,fun hm=>by rwa [zhh] at hm⟩
   unfold Own at hk ⊢
   rwa [t.hη c e,t.hx c e] at hk
 ·by_cases e:c=b
  ·subst e
   rw [List.getElem?_set] at hc
   simp only [if_true] at hc
   split at hc
   ·injection hc with hc
    obtain ⟨_,_,h3⟩:=t.hO o' hc
    exact ⟨o,t.at_,(h3 hs).1,(h3 hs).2⟩
   ·cases hc
  ·rw [List.getElem?_set_ne (fun h=>e h.symm)] at hc
   obtain ⟨o1,h1,rfl⟩:=(zk9 f st c o').1 hc
   exact ⟨o1,h1,by rwa [zii] at hs,t.hη c e⟩
theorem Rel.turn {E:En} {η η':Hd} {J J':Nat→Prop} {s:Sx} {a:Act} {w w':World} {b:Nat} {o:Obj'} {f:BV→BV} {new:Option Obj'} (h:Rel G E η J s a w) (t:Turn G η J w s.st b o f η' J' w' new) :
  Rel G E η' J' ⟨s.n,s.m,z5b f s.env,(z99 f s.st).set b new⟩ a w':=h.step f t.hf (t.ok h.ok) (t.ex h.ok)
theorem Rel.drew {E:En} {η:Hd} {J:Nat→Prop} {s:Sx} {a:Act} {w:World} (h:Rel G E η J s a w):Rel G E η J s a w.drew:=by
 have hf:∀ x v,BVr η J w x v→BVr η J w.drew x v:=fun x v hx=>BVr.mono (w:=w) (w':=w.drew) (fun _ h=>h) (fun _ _=>rfl) (fun _ h _=>⟨h,rfl⟩) hx
 have id_map:∀ o':Obj',o'.map id=o':=fun o'=>by cases o' <;> simp [Obj'.map]
 have ok:Ok G η J w.drew s.st:=⟨h.ok.len,h.ok.jlt,fun b o hb=>by
  have:=(h.ok.obj b o hb).map (f:=id) (η':=η) (J':=J) (w':=w.drew) rfl rfl (fun _ _=>rfl) hf (fun p v hp=>Rd.mono (w:=w) (w':=w.drew) (fun _ h=>h) (fun _ _=>rfl) hp)
  rwa [id_map] at this,h.ok.dis,h.ok.jd,Glob.mono h.ok.glob (fun _ h=>h) (fun _ _=>rfl)⟩
 exact h.step' hf ok ⟨fun _ h=>h,rfl,rfl,rfl,Nat.le_refl _,fun _ _ _=>rfl,fun _ h=>.inl h,Nat.le_refl _,fun b o k hb hk=>.inr ⟨b,o,hb,hk,fun h=>h⟩,fun b o _ hb hs=>⟨o,hb,hs,rfl⟩⟩
end
end Go.Proofs.YtimbigpplbbjaaaGreatDoor.Abs

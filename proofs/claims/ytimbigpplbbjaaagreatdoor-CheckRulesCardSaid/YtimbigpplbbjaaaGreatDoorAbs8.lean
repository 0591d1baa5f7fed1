/- Abstract states of the machine: a call, in its caller's state. -/
import Derived.Test.YtimbigpplbbjaaaGreatDoorAbs7
namespace Go.Proofs.YtimbigpplbbjaaaGreatDoor.Abs
open Go Go.RowKit
set_option linter.unusedVariables false
set_option linter.unusedSimpArgs false
section
variable {P:Program} {G:Nat→Option (List PV)}
theorem zjf {ids ro:List Nat} {st:z0q} {j:Nat} {o:Obj'} (h:(locS ids ro st)[j]?=some (some o)) :
  ∃ b o0,ids[j]?=some b∧st[b]?=some (some o0)∧o=locO ids (!ro.contains b) o0:=by
 unfold locS at h
 rw [List.getElem?_map] at h
 cases hb:ids[j]? with
 | none=>rw [hb] at h;cases h
 | some b =>
  rw [hb] at h
  simp only [Option.map_some,Option.some.injEq] at h
  cases ho:st[b]? with
  | none=>rw [ho] at h;cases h
  | some o1 =>
   rw [ho] at h
   cases o1 with
   | none=>cases h
   | some o0=>simp only [Option.some.injEq] at h;exact ⟨b,o0,rfl,ho,h.symm⟩
theorem zu5 (ids:List Nat) (m:Bool) (o:Obj'):(locO ids m o).mut=(m&&o.mut):=by cases o <;> rfl
def locH (η:Hd) (ids:List Nat):Hd:=⟨fun j=>η.f ((ids[j]?).getD 0),fun j=>j<ids.length,fun j=>η.x ((ids[j]?).getD 0)⟩
theorem zpi {η:Hd} {ids:List Nat} {j b:Nat} (h:ids[j]?=some b):(locH η ids).f j=η.f b:=by simp [locH,h]
theorem z02s {η:Hd} {ids:List Nat} {j b:Nat} (h:ids[j]?=some b):(locH η ids).x j=η.x b:=by simp [locH,h]
theorem zqp {η:Hd} {J:Nat→Prop} {w:World} {ids:List Nat} {x:BV} {v:Value} (h:BVr η J w x v):BVr (locH η ids) J w (loc ids x) v :=
 zpg (fun _ h=>h) (fun _ _=>rfl) (fun b j _ hj=>by
  have:=zgq hj
  exact ⟨(List.getElem?_eq_some_iff.1 this).1,zpi this⟩) h
theorem zlk {η:Hd} {ids:List Nat} {j b k:Nat} (h:ids[j]?=some b):Own (locH η ids) j k↔Own η b k:=by unfold Own;rw [zpi h,z02s h]
theorem z00x {η:Hd} {J:Nat→Prop} {w:World} {ids:List Nat} {j b:Nat} {m:Bool} {o:Obj'} (h:ids[j]?=some b) (ho:ObjR η J w b o):ObjR (locH η ids) J w j (locO ids m o):=by
 have:=ho.map2 (zpi h) (z02s h) (fun _ _=>rfl) (fun _ _=>zqp (ids:=ids)) (fun _ _ h=>h)
 cases o with
 | box m0 T cs=>exact this
 | row m0 ch E sz xs=>exact this
 | tree m0 ch h E sz xs=>exact this
theorem z045 {η:Hd} {J:Nat→Prop} {w:World} {st:z0q} {ids:List Nat} (ro:List Nat) (h:Ok G η J w st) (hn:ids.Nodup):Ok G (locH η ids) J w (locS ids ro st):=by
 refine ⟨fun j hj=>by have hj2:j<ids.length:=hj;simpa [locS] using hj2,h.jlt,fun j o hj=>?_,fun i j o1 o2 k hi hj hik hjk=>?_,fun j o k hj hk=>?_,h.glob⟩
 ·obtain ⟨b,o0,h1,h2,rfl⟩:=zjf hj
  exact z00x h1 (h.obj b o0 h2)
 ·obtain ⟨b,o0,h1,h2,rfl⟩:=zjf hi
  obtain ⟨c,o0',h3,h4,rfl⟩:=zjf hj
  have e:=h.dis b c o0 o0' k h2 h4 ((zlk h1).1 hik) ((zlk h3).1 hjk)
  subst e
  have e1:=zkb hn h1
  have e2:=zkb hn h3
  rw [e1] at e2;injection e2
 ·obtain ⟨b,o0,h1,h2,rfl⟩:=zjf hj
  exact h.jd b o0 k h2 ((zlk h1).1 hk)
def z8n (η η':Hd) (ids:List Nat) (n m:Nat):Hd:=⟨fun b=>match pos ids b with
 | some j=>η'.f j
 | none=>if b<n then η.f b else η'.f (ids.length+(b - n)),fun b=>η.d b∨b∈ids∨(n≤b∧b<n+(m - ids.length)),fun b=>match pos ids b with
 | some j=>η'.x j
 | none=>if b<n then η.x b else η'.x (ids.length+(b - n))⟩
theorem zw1 {o:Option Obj'} {o' o'':Obj'} (h:z00v o o'=some o''):o''.mut=o'.mut∧(∃ o0,o=some o0∧(o''.same=true→o'.same=true∧o0.same=true)) ∧
  ∀ (η:Hd) (J:Nat→Prop) (w:World) (b:Nat),ObjR η J w b o'→ObjR η J w b o'':=by
 unfold z00v at h
 split at h
 ·injection h with h;subst h
  refine ⟨rfl,⟨_,rfl,fun h=>?_⟩,fun η J w b h=>h⟩
  simp only [Obj'.same,Bool.not_or,Bool.and_eq_true] at h ⊢
  exact h
 ·injection h with h;subst h
  refine ⟨rfl,⟨_,rfl,fun h=>?_⟩,fun η J w b h=>h⟩
  simp only [Obj'.same,Bool.not_or,Bool.and_eq_true] at h ⊢
  exact h
 ·injection h with h;subst h
  refine ⟨rfl,⟨_,rfl,fun h=>?_⟩,fun η J w b h=>h⟩
  simp only [Obj'.same,Bool.not_or,Bool.and_eq_true] at h ⊢
  exact h
 ·injection h with h;subst h
  refine ⟨rfl,⟨_,rfl,fun h=>?_⟩,fun η J w b h=>h⟩
  simp only [Obj'.same,Bool.not_or,Bool.and_eq_true] at h ⊢
  exact h
 ·injection h with h;subst h
  exact ⟨rfl,⟨_,rfl,fun h=>⟨rfl,rfl⟩⟩,fun η J w b h=>h⟩
 ·cases h
theorem zsd {E:En} {η η':Hd} {J J':Nat→Prop} {s:Sx} {a:Act} {w w':World} {ids ro:List Nat} {st':z0q} (hr:Rel G E η J s a w) (hn:ids.Nodup) (hlt:∀ b∈ids,b<s.st.length)
  (ok:Ok G η' J' w' st') (ex:Ex (locH η ids) J w (locS ids ro s.st) η' J' w' st') :
  Rel G E (z8n η η' ids s.st.length st'.length) J' ⟨s.n,s.m,z5b (pur ids st') s.env,zph ids ro s.st st'⟩ a w'∧∀ x v,BVr η' J' w' x v→BVr (z8n η η' ids s.st.length st'.length) J' w' (unl ids s.st.length x) v:=by
 have h:=hr.ok
 have hlS:(locS ids ro s.st).length=ids.length:=by simp [locS]
 have hk:ids.length≤st'.length:=by have:=ex.len;omega
 have wst:∀ k,Wst (locH η ids) (locS ids ro s.st) k→∃ b o0,ids.contains b=true∧ro.contains b=false∧s.st[b]?=some (some o0)∧o0.mut=true∧Own η b k:=by
  rintro k ⟨j,o,hj,hm,ho⟩
  obtain ⟨b,o0,h1,h2,rfl⟩:=zjf hj
  rw [zu5] at hm
  simp only [Bool.and_eq_true,Bool.not_eq_true'] at hm
  exact ⟨b,o0,by simpa using List.mem_of_getElem? h1,hm.1,h2,hm.2,(zlk h1).1 ho⟩
 have keepJ:∀ k,J k→w'.heap[k]?=w.heap[k]?:=fun k hk=>ex.keep k (h.jlt k hk) (fun hw=>by
  obtain ⟨b,o0,_,_,h2,_,h3⟩:=wst k hw
  exact h.jd b o0 k h2 h3 hk)
 have hdr:∀ b j,pos ids b=some j→bad st' j=false→η'.f j=η.f b:=fun b j hp hb=>by
  have h1:=zgq hp
  unfold bad at hb
  cases ho:st'[j]? with
  | none=>rw [ho] at hb;cases hb
  | some o1 =>
   rw [ho] at hb
   cases o1 with
   | none=>cases hb
   | some o' =>
    simp only [Bool.not_eq_false'] at hb
    obtain ⟨_,_,_,e⟩:=ex.hdr j o' (by rw [hlS];exact (List.getElem?_eq_some_iff.1 h1).1) ho hb
    rw [e,zpi h1]
 have mh:∀ b j,pos ids b=some j→(z8n η η' ids s.st.length st'.length).f b=η'.f j:=fun b j hp=>by simp [z8n,hp]
 have mo:∀ b,pos ids b=none→b<s.st.length→(z8n η η' ids s.st.length st'.length).f b=η.f b:=fun b hp hb=>by simp [z8n,hp,hb]
 have hpur:∀ x v,BVr η J w x v→BVr (z8n η η' ids s.st.length st'.length) J' w' (pur ids st' x) v:=fun x v hx=>zpg ex.jj keepJ (fun b j hb hg=>by
  cases hp:pos ids b with
  | none =>
   simp only [hp] at hg
   injection hg with hg;subst hg
   exact ⟨.inl hb,mo b hp (h.len b hb)⟩
  | some i =>
   simp only [hp] at hg
   split at hg
   ·cases hg
   ·rename_i hbd
    injection hg with hg;subst hg
    exact ⟨.inl hb,(mh b i hp).trans (hdr b i hp (by simpa using hbd))⟩) hx
 have notin:∀ c,s.st.length≤c→pos ids c=none:=fun c hc=>by
  cases hp:pos ids c with
  | none=>rfl
  | some j=>have:=hlt c (List.mem_of_getElem? (zgq hp));omega
 have hback:∀ j,j<st'.length→(z8n η η' ids s.st.length st'.length).d (back ids s.st.length j)∧(z8n η η' ids s.st.length st'.length).f (back ids s.st.length j)=η'.f j:=fun j hj=>by
  unfold back
  cases hi:ids[j]? with
  | some b =>
   simp only
   have:=hlt b (List.mem_of_getElem? hi)
   exact ⟨.inr (.inl (List.mem_of_getElem? hi)),mh b j (zkb hn hi)⟩
  | none =>
   have hge:ids.length≤j:=by simpa using hi
   simp only
   have hp:=notin (s.st.length+(j - ids.length)) (by omega)
   refine ⟨.inr (.inr ⟨by omega,by omega⟩),?_⟩
   simp only [z8n,hp]
   rw [if_neg (by omega)]
   congr 1
   omega
 have hunl:∀ x v,BVr η' J' w' x v→BVr (z8n η η' ids s.st.length st'.length) J' w' (unl ids s.st.length x) v:=fun x v hx=>zpg (fun _ h=>h) (fun _ _=>rfl) (fun b j hb hg=>by
  injection hg with hg;subst hg
  exact hback b (ok.len b hb)) hx
 have mhx:∀ b j,pos ids b=some j→(z8n η η' ids s.st.length st'.length).x b=η'.x j:=fun b j hp=>by simp [z8n,hp]
 have mox:∀ b,pos ids b=none→b<s.st.length→(z8n η η' ids s.st.length st'.length).x b=η.x b:=fun b hp hb=>by simp [z8n,hp,hb]
 have hbackx:∀ j,j<st'.length→(z8n η η' ids s.st.length st'.length).x (back ids s.st.length j)=η'.x j:=fun j hj=>by
  unfold back
  cases hi:ids[j]? with
  | some b=>exact mhx b j (zkb hn hi)
  | none =>
   have hge:ids.length≤j:=by simpa using hi
   simp only
   have hp:=notin (s.st.length+(j - ids.length)) (by omega)
   simp only [z8n,hp]
   rw [if_neg (by omega)]
   congr 1
   omega
 have tx:∀ b o0 j,s.st[b]?=some (some o0)→pos ids b=some j→bdr st' (some o0) j=false→η'.x j=[]∧η.x b=[]:=fun b o0 j hb hp hbd=>by
  unfold bdr at hbd
  simp only [Bool.or_eq_false_iff] at hbd
  obtain ⟨h1,h2,h3⟩:=hbd
  refine ⟨?_,z06u (h.obj b o0 hb) h2⟩
  unfold bad at h1
  cases ho:st'[j]? with
  | none=>rw [ho] at h1;cases h1
  | some o1 =>
   rw [ho] at h1 h3
   cases o1 with
   | none=>cases h1
   | some o'=>exact z06u (ok.obj j o' ho) h3
 have owner:∀ b j,(z8n η η' ids s.st.length st'.length).f b=η'.f j→(z8n η η' ids s.st.length st'.length).x b=η'.x j→∀ k,Own (z8n η η' ids s.st.length st'.length) b k→Own η' j k:=fun b j e ex k hk=>by unfold Own at hk ⊢;rwa [e,ex] at hk
 have ownold:∀ b,(z8n η η' ids s.st.length st'.length).f b=η.f b→(z8n η η' ids s.st.length st'.length).x b=η.x b→∀ k,Own (z8n η η' ids s.st.length st'.length) b k→Own η b k:=fun b e ex k hk=>by unfold Own at hk ⊢;rwa [e,ex] at hk
 have stay:∀ b o0,s.st[b]?=some (some o0)→(∀ j,pos ids b=some j→ro.contains b=true∧bdr st' (some o0) j=false)→(z8n η η' ids s.st.length st'.length).f b=η.f b∧(z8n η η' ids s.st.length st'.length).x b=η.x b∧∀ k,Own η b k→w'.heap[k]?=w.heap[k]?∧¬ J' k:=fun b o0 hb hp=>by
  have hb':b<s.st.length:=(List.getElem?_eq_some_iff.1 hb).1
  have nw:∀ k,Own η b k→¬ Wst (locH η ids) (locS ids ro s.st) k:=fun k hk hw=>by
   obtain ⟨c,o1,h1,h2,h3,_,h4⟩:=wst k hw
   have e:=h.dis b c o0 o1 k hb h3 hk h4
   subst e
   cases hpb:pos ids b with
   | none=>exact zu4 hpb (by simpa using h1)
   | some j=>rw [(hp j hpb).1] at h2;cases h2
  refine ⟨?_,?_,fun k hk=>⟨ex.keep k ((h.obj b o0 hb).lt hk) (nw k hk),fun hj=>?_⟩⟩
  ·cases hpb:pos ids b with
   | none=>exact mo b hpb hb'
   | some j=>rw [mh b j hpb];exact hdr b j hpb (zxm (hp j hpb).2)
  ·cases hpb:pos ids b with
   | none=>exact mox b hpb hb'
   | some j =>
    obtain ⟨q1,q2⟩:=tx b o0 j hb hpb (hp j hpb).2
    rw [mhx b j hpb,q1,q2]
  ·rcases ex.jn k hj with hj|hj|hj
   ·exact h.jd b o0 k hb hk hj
   ·have:=(h.obj b o0 hb).lt hk;omega
   ·exact nw k hk hj
 have cls:∀ b o,(zph ids ro s.st st')[b]?=some (some o)→(∃ o0,s.st[b]?=some (some o0)∧o=o0.map (pur ids st')∧∀ j,pos ids b=some j→ro.contains b=true∧bdr st' (some o0) j=false) ∨
   (∃ j o',st'[j]?=some (some o')∧back ids s.st.length j=b∧((z8n η η' ids s.st.length st'.length).f b=η'.f j∧(z8n η η' ids s.st.length st'.length).x b=η'.x j)∧o.mut=o'.mut∧(ObjR (z8n η η' ids s.st.length st'.length) J' w' b (o'.map (unl ids s.st.length))→ObjR (z8n η η' ids s.st.length st'.length) J' w' b o) ∧
    (b<s.st.length→o.same=true→o'.same=true∧∃ o0,s.st[b]?=some (some o0)∧o0.same=true)∧(∀ i,pos ids b=some i→i=j∧ro.contains b=false)):=fun b o hb=>by
  rcases z00w hb with h1|⟨j,o',hp,hro,ho',o0,hb0,hf⟩|⟨hge,o',ho',rfl⟩
  ·exact .inl h1
  ·obtain ⟨f1,⟨o1,f2,f3⟩,f4⟩:=zw1 hf
   subst f2
   refine .inr ⟨j,o',ho',?_,⟨mh b j hp,mhx b j hp⟩,by rw [f1,zhh],f4 _ _ _ _,fun _ hs=>?_,fun i hi=>?_⟩
   ·simp [back,zgq hp]
   ·obtain ⟨f5,f6⟩:=f3 hs;rw [zii] at f5;exact ⟨f5,o1,hb0,f6⟩
   ·rw [hp] at hi;injection hi with hi;exact ⟨hi.symm,hro⟩
  ·have hj:ids.length+(b - s.st.length)<st'.length:=(List.getElem?_eq_some_iff.1 ho').1
   have hbk:back ids s.st.length (ids.length+(b - s.st.length))=b:=by
    unfold back
    rw [List.getElem?_eq_none (by omega)]
    simp only
    omega
   have:=(hback _ hj).2
   have thx:=hbackx _ hj
   rw [hbk] at this thx
   exact .inr ⟨_,o',ho',hbk,⟨this,thx⟩,zhh _ _,fun h=>h,fun hlt'=>by omega,fun i hi=>by rw [notin b hge] at hi;cases hi⟩
 have hbinj:∀ i j,back ids s.st.length i=back ids s.st.length j→i<st'.length→j<st'.length→i=j:=fun i j e hi hj=>by
  unfold back at e
  cases h1:ids[i]? with
  | some b =>
   have hb:=hlt b (List.mem_of_getElem? h1)
   cases h2:ids[j]? with
   | some c =>
    simp only [h1,h2] at e;subst e
    have e1:=zkb hn h1
    rw [zkb hn h2] at e1;injection e1 with e1;exact e1.symm
   | none=>simp only [h1,h2] at e;omega
  | none =>
   have h1':ids.length≤i:=by simpa using h1
   cases h2:ids[j]? with
   | some c=>have hc:=hlt c (List.mem_of_getElem? h2);simp only [h1,h2] at e;omega
   | none =>
    have h2':ids.length≤j:=by simpa using h2
    simp only [h1,h2] at e;omega
 have far:∀ b o0 j o' k,s.st[b]?=some (some o0)→(∀ i,pos ids b=some i→ro.contains b=true∧bdr st' (some o0) i=false)→st'[j]?=some (some o')→(∀ i,pos ids b=some i→i≠j)→Own η b k→Own η' j k→False:=fun b o0 j o' k hb hp hj hne hbk hjk=>by
  rcases ex.own j o' k hj hjk with h1|⟨c,o1,h1,h2,_⟩
  ·have:=(h.obj b o0 hb).lt hbk;omega
  ·obtain ⟨d,o2,h3,h4,_⟩:=zjf h1
   have e:=h.dis b d o0 o2 k hb h4 hbk ((zlk h3).1 h2)
   subst e
   have hpd:=zkb hn h3
   obtain ⟨_,hbr⟩:=hp c hpd
   obtain ⟨t1,t2⟩:=tx b o0 c hb hpd hbr
   have hbd:=zxm hbr
   unfold bad at hbd
   cases hc:st'[c]? with
   | none=>rw [hc] at hbd;cases hbd
   | some o3 =>
    rw [hc] at hbd
    cases o3 with
    | none=>cases hbd
    | some o3 =>
     have:Own η' c k:=by unfold Own;rw [hdr b c hpd (by unfold bad;rw [hc];exact hbd),t1,← t2];exact hbk
     exact hne c hpd (ok.dis c j o3 o' k hc hj this hjk)
 refine ⟨⟨hr.size,hr.m,hr.defers,fun t xs ht=>?_,⟨fun b hb=>by
  rw [zqo]
  rcases hb with hb|hb|hb
  ·have:=h.len b hb;omega
  ·have:=hlt b hb;omega
  ·exact hb.2,ok.jlt,fun b o hb=>?_,fun b c o1 o2 k hb hc hbk hck=>?_,fun b o k hb hbk hj=>?_,ok.glob⟩,hr.ex.trans ⟨ex.jj,ex.os,ex.tape,ex.output,ex.size,fun k hk hw=>?_,fun k hj=>?_,by rw [zqo];omega,fun b o k hb hbk=>?_,fun b o hlt' hb hs=>?_⟩⟩,hunl⟩
 ·rw [show (⟨s.n,s.m,z5b (pur ids st') s.env,zph ids ro s.st st'⟩:Sx).env=z5b (pur ids st') s.env from rfl,zn7] at ht
  cases hl:lk s.env t with
  | none=>rw [hl] at ht;cases ht
  | some ys=>rw [hl] at ht;injection ht with ht;subst ht;exact Rs.map hpur (hr.env t ys hl)
 ·rcases cls b o hb with ⟨o0,h1,rfl,h2⟩|⟨j,o',h1,h2,h3,_,h4,_⟩
  ·obtain ⟨e,e2,hst⟩:=stay b o0 h1 h2
   exact (h.obj b o0 h1).map e e2 (fun k hk=>(hst k hk).1) hpur (fun p v hp=>Rd.mono ex.jj keepJ hp)
  ·have:=ok.obj j o' h1
   exact h4 (this.map2 h3.1 h3.2 (fun _ _=>rfl) hunl (fun _ _ h=>h))
 ·rcases cls b o1 hb with ⟨p0,p1,rfl,p2⟩|⟨i,p',p1,p2,p3,_,_,_,p4⟩ <;> rcases cls c o2 hc with ⟨q0,q1,rfl,q2⟩|⟨j,q',q1,q2,q3,_,_,_,q4⟩
  ·exact h.dis b c p0 q0 k p1 q1 (ownold b (stay b p0 p1 p2).1 (stay b p0 p1 p2).2.1 k hbk) (ownold c (stay c q0 q1 q2).1 (stay c q0 q1 q2).2.1 k hck)
  ·by_cases e:b=c
   ·exact e
   ·exact (far b p0 j q' k p1 p2 q1 (fun i hi e'=>by subst e';exact e (by rw [← q2];simp [back,zgq hi])) (ownold b (stay b p0 p1 p2).1 (stay b p0 p1 p2).2.1 k hbk) (owner c j q3.1 q3.2 k hck)).elim
  ·by_cases e:b=c
   ·exact e
   ·exact (far c q0 i p' k q1 q2 p1 (fun i' hi e'=>by subst e';exact e (by rw [← p2];simp [back,zgq hi])) (ownold c (stay c q0 q1 q2).1 (stay c q0 q1 q2).2.1 k hck) (owner b i p3.1 p3.2 k hbk)).elim
  ·have:=ok.dis i j p' q' k p1 q1 (owner b i p3.1 p3.2 k hbk) (owner c j q3.1 q3.2 k hck)
   subst this
   rw [← p2,← q2]
 ·rcases cls b o hb with ⟨p0,p1,rfl,p2⟩|⟨i,p',p1,p2,p3,_⟩
  ·exact ((stay b p0 p1 p2).2.2 k (ownold b (stay b p0 p1 p2).1 (stay b p0 p1 p2).2.1 k hbk)).2 hj
  ·exact ok.jd i p' k p1 (owner b i p3.1 p3.2 k hbk) hj
 ·exact ex.keep k hk (fun hw'=>by
   obtain ⟨b,o0,_,_,h2,h3,h4⟩:=wst k hw'
   exact hw ⟨b,o0,h2,h3,h4⟩)
 ·rcases ex.jn k hj with hj|hj|hj
  ·exact .inl hj
  ·exact .inr (.inl hj)
  ·obtain ⟨b,o0,_,_,h2,h3,h4⟩:=wst k hj
   exact .inr (.inr ⟨b,o0,h2,h3,h4⟩)
 ·rcases cls b o hb with ⟨p0,p1,rfl,p2⟩|⟨i,p',p1,p2,p3,p4,_⟩
  ·exact .inr ⟨b,p0,p1,ownold b (stay b p0 p1 p2).1 (stay b p0 p1 p2).2.1 k hbk,fun hm=>by rwa [zhh] at hm⟩
  ·rcases ex.own i p' k p1 (owner b i p3.1 p3.2 k hbk) with h1|⟨c,o1,h1,h2,h3⟩
   ·exact .inl h1
   ·obtain ⟨d,o2,h4,h5,rfl⟩:=zjf h1
    refine .inr ⟨d,o2,h5,(zlk h4).1 h2,fun hm=>?_⟩
    rw [p4] at hm
    have:=h3 hm
    rw [zu5] at this
    simp only [Bool.and_eq_true] at this
    exact this.2
 ·rcases cls b o hb with ⟨p0,p1,rfl,p2⟩|⟨i,p',p1,p2,p3,_,_,p5,p6⟩
  ·exact ⟨p0,p1,by rwa [zii] at hs,(stay b p0 p1 p2).1⟩
  ·obtain ⟨h1,o0,h2,h3⟩:=p5 hlt' hs
   refine ⟨o0,h2,h3,?_⟩
   rw [p3.1]
   unfold back at p2
   cases hi:ids[i]? with
   | some c =>
    simp only [hi] at p2;subst p2
    exact hdr c i (zkb hn hi) (by unfold bad;rw [p1];simp [h1])
   | none=>simp only [hi] at p2;omega
end
end Go.Proofs.YtimbigpplbbjaaaGreatDoor.Abs

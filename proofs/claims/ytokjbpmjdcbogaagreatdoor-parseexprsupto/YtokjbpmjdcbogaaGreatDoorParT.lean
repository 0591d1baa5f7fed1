/- What parsing is, over words; the program's reader does it: signs, names, expressions. -/
import Derived.Test.YtokjbpmjdcbogaaGreatDoorPlB
import Derived.KernelRfl
namespace Go.Proofs.YtokjbpmjdcbogaaGreatDoor.Abs.Par
open Go Go.RowKit Wri
set_option linter.unusedVariables false
set_option linter.unusedSimpArgs false
inductive Rs (α:Type) where
 | ok (v:α) (ts:List Tok)
 | er (c p:Int)
 | out
def Rs.bind {α β:Type} (x:Rs α) (k:α→List Tok→Rs β):Rs β:=match x with
 | .ok v ts=>k v ts
 | .er c p=>.er c p
 | .out=>.out
section
variable (L:Int)
def sAt:List Tok→Int
 | []=>L
 | t::_=>(t.at_:Int)
def z27 (w:ByteArray):List Tok→Bool
 | []=>false
 | t::_=>decide (t.kind≥3)&&(t.text==w.data.toList)
def sOf (k:Int):List Tok→Bool
 | []=>false
 | t::_=>t.kind==k
def z8z (w:ByteArray) (ts:List Tok):Rs Unit:=if z27 w ts then .ok () ts.tail else .er 5 (sAt L ts)
def zcd:List Tok→Rs ByteArray
 | []=>.er 5 L
 | t::r=>if t.kind==1 then .ok ⟨t.text.toArray⟩ r else .er 5 (t.at_:Int)
def sNum:List Tok→Rs Int
 | []=>.er 5 L
 | t::r=>if t.kind==2 then .ok (t.num:Int) r else .er 5 (t.at_:Int)
def z3p:List ByteArray→List Tok→Option Nat
 | [],_=>none
 | w::l,ts=>if z27 w ts then some 0 else (z3p l ts).map (· + 1)
def zE:z04:=⟨0,0,ByteArray.mk #[],[]⟩
def zC:z1k:=⟨0,zE,zE⟩
def mulS:List ByteArray:=[(ByteArray.mk #[42]),(ByteArray.mk #[47]),(ByteArray.mk #[37])]
def addS:List ByteArray:=[(ByteArray.mk #[43]),(ByteArray.mk #[45])]
mutual
def z63:Nat→Nat→List Tok→Rs z04
 | 0,_,_=>.out
 | f+1,d,ts =>
  if z27 (ByteArray.mk #[45]) ts then (if d=24 then .er 6 (sAt L ts) else (z63 f (d+1) ts.tail).bind fun e r=>.ok ⟨3,0,ByteArray.mk #[],[e]⟩ r)
  else if z27 (ByteArray.mk #[40]) ts then (if d=24 then .er 6 (sAt L ts) else (zdi f (d+1) ts.tail).bind fun e r=>(z8z L (ByteArray.mk #[41]) r).bind fun _ r'=>.ok e r')
  else if sOf 2 ts then (sNum L ts).bind fun n r=>.ok ⟨1,n,ByteArray.mk #[],[]⟩ r
  else (zcd L ts).bind fun s r=>.ok ⟨2,0,s,[]⟩ r
def sMul:Nat→Nat→z04→List Tok→Rs z04
 | 0,_,_,_=>.out
 | f+1,d,e,ts=>match z3p mulS ts with
  | none=>.ok e ts
  | some j=>(z63 f d ts.tail).bind fun k r=>sMul f d ⟨6+(j:Int),0,ByteArray.mk #[],[e,k]⟩ r
def zdh:Nat→Nat→List Tok→Rs z04
 | 0,_,_=>.out
 | f+1,d,ts=>(z63 f d ts).bind fun e r=>sMul f d e r
def sAdd:Nat→Nat→z04→List Tok→Rs z04
 | 0,_,_,_=>.out
 | f+1,d,e,ts=>match z3p addS ts with
  | none=>.ok e ts
  | some j=>(zdh f d ts.tail).bind fun k r=>sAdd f d ⟨4+(j:Int),0,ByteArray.mk #[],[e,k]⟩ r
def zdi:Nat→Nat→List Tok→Rs z04
 | 0,_,_=>.out
 | f+1,d,ts=>(zdh f d ts).bind fun e r=>sAdd f d e r
end
end
def PS (L:Int) (ts:List Tok) (d i:Int):z00:=⟨ts.map tokT,L,0,0,d,i⟩
def EP (a:z00) (c p:Int):Prop:=a.f_e=c∧a.f_at=p
section
variable {ρ ρ' β γ:Type} {L d i d' i':Int} {π:ρ→z00} {mk:β→z00→ρ} {π':ρ'→z00} {mk':γ→z00→ρ'} {H:Nat}
def GP (L d i:Int) (π:ρ→z00) (mk:β→z00→ρ):Rs β→ρ→Prop
 | .ok v ts,r=>r=mk v (PS L ts d i)
 | .er c p,r=>c≠0∧EP (π r) c p
 | .out,_=>False
def TP (L d i:Int) (π:ρ→z00) (mk:β→z00→ρ) (H:Nat) (x:Nat→Option ρ) (o:Rs β):Prop:=o≠.out→∃ r,GP L d i π mk o r∧∀ n,Sn n H (x n) r
theorem TP.bind {x:Nat→Option ρ} {o:Rs β} {k:Nat→ρ→Option ρ'} {k':β→List Tok→Rs γ} (h:TP L d i π mk H x o) (hok:∀ v ts,o=.ok v ts→TP L d' i' π' mk' H (fun n=>k n (mk v (PS L ts d i))) (k' v ts))
  (her:∀ r c p,c≠0→EP (π r) c p→∃ r',EP (π' r') c p∧∀ n,Sn n H (k n r) r'):TP L d' i' π' mk' H (fun n=>x n>>=k n) (o.bind k'):=by
 intro hne
 cases o with
 | ok v ts =>
  obtain ⟨r,hr,hs⟩:=h (by simp)
  have hr:r=mk v (PS L ts d i):=hr
  subst hr
  obtain ⟨r',g',s'⟩:=hok v ts rfl hne
  exact ⟨r',g',fun n=>Sn.bind (f:=k n) (hs n) (s' n)⟩
 | er c p =>
  obtain ⟨r,⟨hc,he⟩,hs⟩:=h (by simp)
  obtain ⟨r',he',s'⟩:=her r c p hc he
  exact ⟨r',⟨hc,he'⟩,fun n=>Sn.bind (f:=k n) (hs n) (s' n)⟩
 | out=>exact absurd rfl hne
theorem TP.pure {x:Nat→Option ρ} {v:β} {ts:List Tok} (e:∀ n,x n=some (mk v (PS L ts d i))):TP L d i π mk H x (.ok v ts):=fun _=>⟨_,rfl,fun n=>.inl (e n)⟩
theorem TP.err {x:Nat→Option ρ} {r:ρ} {c p:Int} (e:∀ n,x n=some r) (hc:c≠0) (hp:EP (π r) c p):TP L d i π mk H x (.er c p):=fun _=>⟨r,⟨hc,hp⟩,fun n=>.inl (e n)⟩
theorem TP.up {F x:Nat→Option ρ} {o:Rs β} (h0:F 0=none) (h1:∀ n,F (n+1)=x n) (h:TP L d i π mk H x o):TP L d i π mk (H+1) F o:=by
 intro hne
 obtain ⟨r,g,s⟩:=h hne
 refine ⟨r,g,fun n=>?_⟩
 cases n with
 | zero=>exact .inr ⟨h0,by omega⟩
 | succ n=>rw [h1];exact (s n).up
theorem TP.mono {x:Nat→Option ρ} {o:Rs β} {H':Nat} (h:TP L d i π mk H x o) (hh:H≤H'):TP L d i π mk H' x o:=fun hne=>by
 obtain ⟨r,g,s⟩:=h hne
 exact ⟨r,g,fun n=>(s n).mono hh⟩
theorem TP.eq {x y:Nat→Option ρ} {o:Rs β} (h:TP L d i π mk H y o) (e:∀ n,x n=y n):TP L d i π mk H x o:=by
 rw [show x=y from funext e];exact h
theorem TP.unf {x:Nat→Option ρ} {o:Rs β} (h:TP L d i π mk H x o):TP L d i π mk 0 (fun _=>unf x) o:=fun hne=>by
 obtain ⟨r,g,s⟩:=h hne
 exact ⟨r,g,fun n=>.inl (Sn.unf s)⟩
end
theorem zkp {ρ:Type} {P:ρ→Prop} {x:Nat→Option ρ} {r:ρ} {H:Nat} (e:∀ n,Sn n H (x n) r) (p:P r):∃ r,P r∧∀ n,Sn n H (x n) r:=⟨r,p,e⟩
theorem zsb (t:Tok):(tokT t).Text.data.toList=t.text:=by simp [tokT]
theorem idx0 {α:Type} (x:α) (l:List α):idx (x::l) 0=some x:=rfl
theorem z0az {α:Type} (x:α) (l:List α) (h:l.length≤4611686018427387904):lsub (x::l) 1 ((x::l).length:Int)=some l:=by
 unfold lsub
 rw [if_pos ⟨by omega,by simp only [List.length_cons];omega,by omega⟩]
 simp
section
variable {L d i:Int} {ts:List Tok}
theorem ziz (w:ByteArray):z3e (PS L ts d i) w=some (z27 w ts):=by
 cases ts with
 | nil=>rfl
 | cons t r =>
  unfold z3e PS z27
  have h1:decide (((tokT t::r.map tokT).length:Int) > 0)=true:=by simp
  have e:(tokT t).Kind=t.kind:=rfl
  simp only [beq_self_eq_true,if_true,List.map_cons,h1,idx0,Option.bind_eq_bind,Option.bind_some,Go.ByteArray.toList_eq,zsb,e]
  cases decide (t.kind≥3) <;> simp
theorem of_P (k:Int):z6f (PS L ts d i) k=some (sOf k ts):=by
 cases ts with
 | nil=>rfl
 | cons t r =>
  unfold z6f PS sOf
  have h1:decide (((tokT t::r.map tokT).length:Int) > 0)=true:=by simp
  simp only [beq_self_eq_true,if_true,List.map_cons,h1,idx0,Option.bind_eq_bind,Option.bind_some]
  rfl
theorem zns (c:Int):z2f (PS L ts d i) c=some ⟨ts.map tokT,L,c,sAt L ts,d,i⟩:=by
 cases ts with
 | nil=>rfl
 | cons t r =>
  unfold z2f PS sAt
  have h1:decide (((tokT t::r.map tokT).length:Int) > 0)=true:=by simp
  simp only [zw7,Bool.false_eq_true,if_false,if_true,List.map_cons,h1,idx0,Option.bind_eq_bind,Option.bind_some]
  rfl
theorem zai (hl:ts.length≤2000) (w:ByteArray):z0j (PS L ts d i) w=some (if z27 w ts then (PS L ts.tail d i,true) else (PS L ts d i,false)):=by
 unfold z0j
 rw [ziz]
 cases hs:z27 w ts with
 | false=>rfl
 | true =>
  cases ts with
  | nil=>cases hs
  | cons t r =>
   simp only [Option.bind_eq_bind,Option.bind_some,Bool.not_true,Bool.false_eq_true,if_false,if_true,List.tail_cons]
   have:lsub (PS L (t::r) d i).f_l 1 ((PS L (t::r) d i).f_l.length:Int)=some (r.map tokT):=z0az (tokT t) (r.map tokT) (by simp at hl ⊢;omega)
   rw [this];rfl
theorem zwc (hl:ts.length≤2000) (w:ByteArray):z08 (PS L ts d i) w=some (if z27 w ts then PS L ts.tail d i else ⟨ts.map tokT,L,5,sAt L ts,d,i⟩):=by
 unfold z08
 rw [zai hl]
 cases hs:z27 w ts with
 | false=>simp [zns]
 | true=>simp
abbrev mkM:Unit→z00→z00:=fun _ a=>a
abbrev mkV {α:Type}:α→z00→z00 × α:=fun v a=>(a,v)
theorem z8r {H:Nat} (hl:ts.length≤2000) (w:ByteArray):TP L d i id mkM H (fun _=>z08 (PS L ts d i) w) (z8z L w ts):=by
 unfold z8z
 cases hs:z27 w ts with
 | true=>exact TP.pure (fun n=>by rw [zwc hl,hs];rfl)
 | false=>exact TP.err (r:=⟨ts.map tokT,L,5,sAt L ts,d,i⟩) (fun n=>by rw [zwc hl,hs];rfl) (by decide) ⟨rfl,rfl⟩
theorem zpa (hl:ts.length≤2000) (k:Int):z65 (PS L ts d i) k=match ts with
  | []=>some (⟨[],L,5,L,d,i⟩,⟨0,ByteArray.mk #[],0,0⟩)
  | t::r=>if t.kind==k then some (PS L r d i,tokT t) else some (⟨(t::r).map tokT,L,5,(t.at_:Int),d,i⟩,⟨0,ByteArray.mk #[],0,0⟩):=by
 unfold z65
 rw [of_P]
 cases ts with
 | nil=>rfl
 | cons t r =>
  simp only [sOf]
  cases hk:(t.kind==k) with
  | false=>simp only [Option.bind_eq_bind,Option.bind_some,Bool.not_false,if_true,zns,Bool.false_eq_true,if_false];rfl
  | true =>
   have:lsub (PS L (t::r) d i).f_l 1 ((PS L (t::r) d i).f_l.length:Int)=some (r.map tokT):=z0az (tokT t) (r.map tokT) (by simp at hl ⊢;omega)
   have h0:idx (PS L (t::r) d i).f_l 0=some (tokT t):=rfl
   simp only [Option.bind_eq_bind,Option.bind_some,Bool.not_true,Bool.false_eq_true,if_false,if_true,this,h0]
   rfl
theorem zdj {H:Nat} (hl:ts.length≤2000):TP L d i Prod.fst mkV H (fun _=>z0h (PS L ts d i)) (zcd L ts):=by
 unfold z0h
 cases ts with
 | nil=>exact TP.err (r:=(⟨[],L,5,L,d,i⟩,ByteArray.mk #[])) (fun n=>by rw [zpa hl];rfl) (by decide) ⟨rfl,rfl⟩
 | cons t r =>
  simp only [zcd]
  cases hk:(t.kind==1) with
  | true=>exact TP.pure (fun n=>by rw [zpa hl];simp only [hk,if_true];rfl)
  | false=>exact TP.err (r:=(⟨(t::r).map tokT,L,5,(t.at_:Int),d,i⟩,ByteArray.mk #[])) (fun n=>by rw [zpa hl];simp only [hk,Bool.false_eq_true,if_false];rfl) (by decide) ⟨rfl,rfl⟩
theorem z03n {H:Nat} (hl:ts.length≤2000):TP L d i Prod.fst mkV H (fun _=>z28 (PS L ts d i)) (sNum L ts):=by
 unfold z28
 cases ts with
 | nil=>exact TP.err (r:=(⟨[],L,5,L,d,i⟩,0)) (fun n=>by rw [zpa hl];rfl) (by decide) ⟨rfl,rfl⟩
 | cons t r =>
  simp only [sNum]
  cases hk:(t.kind==2) with
  | true=>exact TP.pure (fun n=>by rw [zpa hl];simp only [hk,if_true];rfl)
  | false=>exact TP.err (r:=(⟨(t::r).map tokT,L,5,(t.at_:Int),d,i⟩,0)) (fun n=>by rw [zpa hl];simp only [hk,Bool.false_eq_true,if_false];rfl) (by decide) ⟨rfl,rfl⟩
def tp6 (a:z00):List z0g × Int × Int × Int × Int × Int:=(a.f_l,a.f_end,a.f_e,a.f_at,a.f_deep,a.f_in)
theorem z03o (hl:ts.length≤2000) (ws:List ByteArray) (hw:ws.length≤1000):∀ (m:List ByteArray) (k:Nat),ws.drop k=m→k≤ws.length →
  iter (z0o ws) ((k:Int),tp6 (PS L ts d i))=some (match z3p m ts with|some j=>.inl (PS L ts.tail d i,((k+j:Nat):Int))|none=>.inr (tp6 (PS L ts d i))):=by
 intro m
 induction m with
 | nil =>
  intro k hd hk
  have:k=ws.length:=by have:=List.drop_eq_nil_iff.1 hd;omega
  subst this
  refine z3i ?_
  unfold z0o
  rw [if_neg (by simp)]
  rfl
 | cons w m ih =>
  intro k hd hk
  have hlt:k<ws.length:=by
   refine Nat.lt_of_not_le fun h=>?_
   rw [List.drop_of_length_le h] at hd;cases hd
  rw [List.drop_eq_getElem_cons hlt] at hd
  injection hd with h1 h2
  have hi:idx ws (k:Int)=some w:=by rw [zgs hlt,h1]
  have hs:z0j (z00.mk (tp6 (PS L ts d i)).1 (tp6 (PS L ts d i)).2.1 (tp6 (PS L ts d i)).2.2.1 (tp6 (PS L ts d i)).2.2.2.1 (tp6 (PS L ts d i)).2.2.2.2.1 (tp6 (PS L ts d i)).2.2.2.2.2) w=_:=zai hl w
  have hbody:z0o ws ((k:Int),tp6 (PS L ts d i))=some (if z27 w ts then .inr (.inl (PS L ts.tail d i,(k:Int))) else .inl (((k+1:Nat):Int),tp6 (PS L ts d i))):=by
   unfold z0o
   rw [if_pos (by simpa using hlt)]
   simp only [hi,Option.bind_eq_bind,Option.bind_some,hs,zfz (i:=k) (by omega)]
   cases z27 w ts <;> rfl
  simp only [z3p]
  cases hsw:z27 w ts with
  | true =>
   rw [hsw,if_pos rfl] at hbody
   rw [z3i hbody];simp
  | false =>
   rw [hsw,if_neg (by decide)] at hbody
   rw [zce hbody,ih (k+1) h2 hlt]
   cases z3p m ts with
   | none=>simp
   | some j=>simp;omega
theorem zqd (hl:ts.length≤2000) (ws:List ByteArray) (hw:ws.length≤1000):z1u (PS L ts d i) ws=some (match z3p ws ts with|some j=>(PS L ts.tail d i,(j:Int))|none=>(PS L ts d i,-1)):=by
 have h:=z03o (L:=L) (d:=d) (i:=i) hl ws hw ws 0 rfl (by omega)
 unfold z1u z2d
 have e:(((0:Nat):Int),tp6 (PS L ts d i))=(0,(PS L ts d i).f_l,(PS L ts d i).f_end,(PS L ts d i).f_e,(PS L ts d i).f_at,(PS L ts d i).f_deep,(PS L ts d i).f_in):=rfl
 rw [← e,h]
 cases z3p ws ts with
 | none=>rfl
 | some j=>simp
end
section
variable {a:z00} (h:a.f_e≠0)
include h
theorem e0:(a.f_e==0)=false:=by simpa using h
theorem e1:(a.f_e != 0)=true:=by simpa using h
theorem z010 (w:ByteArray):z3e a w=some false:=by unfold z3e;rw [if_neg (by simp [h])]
theorem of_e (k:Int):z6f a k=some false:=by unfold z6f;rw [if_neg (by simp [h])]
theorem zpb (c:Int):z2f a c=some a:=by unfold z2f;rw [if_pos (by simp [h])]
theorem zhu (w:ByteArray):z0j a w=some (a,false):=by unfold z0j;rw [z010 h];rfl
theorem zew (w:ByteArray):z08 a w=some a:=by
 unfold z08;rw [zhu h]
 simp only [Option.bind_eq_bind,Option.bind_some,Bool.not_false,if_true,zpb h]
theorem z05l (k:Int):z65 a k=some (a,⟨0,ByteArray.mk #[],0,0⟩):=by
 unfold z65;rw [of_e h]
 simp only [Option.bind_eq_bind,Option.bind_some,Bool.not_false,if_true,zpb h]
theorem zpc:z0h a=some (a,ByteArray.mk #[]):=by unfold z0h;rw [z05l h];rfl
theorem z0b0:z28 a=some (a,0):=by unfold z28;rw [z05l h];rfl
theorem z011 (ws:List ByteArray) (hw:ws.length≤1000):z1u a ws=some (a,-1):=by
 have it:∀ (m:List ByteArray) (k:Nat),ws.drop k=m→k≤ws.length→iter (z0o ws) ((k:Int),tp6 a)=some (.inr (tp6 a)):=by
  intro m
  induction m with
  | nil =>
   intro k hd hk
   have:k=ws.length:=by have:=List.drop_eq_nil_iff.1 hd;omega
   subst this
   refine z3i ?_
   unfold z0o
   rw [if_neg (by simp)]
   try rfl
  | cons w m ih =>
   intro k hd hk
   have hlt:k<ws.length:=by
    refine Nat.lt_of_not_le fun h=>?_
    rw [List.drop_of_length_le h] at hd;cases hd
   rw [List.drop_eq_getElem_cons hlt] at hd
   injection hd with h1 h2
   have hi:idx ws (k:Int)=some w:=by rw [zgs hlt,h1]
   have hs:z0j (z00.mk (tp6 a).1 (tp6 a).2.1 (tp6 a).2.2.1 (tp6 a).2.2.2.1 (tp6 a).2.2.2.2.1 (tp6 a).2.2.2.2.2) w=_:=zhu h w
   rw [zce (y:=(((k+1:Nat):Int),tp6 a))]
   ·exact ih (k+1) h2 hlt
   ·unfold z0o
    rw [if_pos (by simpa using hlt)]
    simp only [hi,Option.bind_eq_bind,Option.bind_some,hs,zfz (i:=k) (by omega)]
    rfl
 unfold z1u z2d
 have e:(((0:Nat):Int),tp6 a)=(0,a.f_l,a.f_end,a.f_e,a.f_at,a.f_deep,a.f_in):=rfl
 rw [← e,it ws 0 rfl (by omega)]
 try rfl
end
theorem bind_ok {α β:Type} {o:Rs α} {k:α→List Tok→Rs β} {v:β} {r:List Tok} (h:o.bind k=.ok v r):∃ w s,o=.ok w s∧k w s=.ok v r:=by
 cases o with
 | ok w s=>exact ⟨w,s,rfl,h⟩
 | er c p=>cases h
 | out=>cases h
section
variable {L:Int}
theorem z4a {w:ByteArray} {ts:List Tok} (h:z27 w ts=true):ts.tail.length<ts.length:=by
 cases ts with
 | nil=>cases h
 | cons t r=>simp
theorem z7k {ts:List Tok}:∀ {ws:List ByteArray} {j:Nat},z3p ws ts=some j→ts.tail.length<ts.length∧j<ws.length
 | [],j,h=>by cases h
 | w::l,j,h=>by
  simp only [z3p] at h
  split at h
  ·rename_i hs;injection h with h;subst h;exact ⟨z4a hs,by simp⟩
  ·cases hw:z3p l ts with
   | none=>rw [hw] at h;cases h
   | some k =>
    rw [hw] at h;injection h with h
    have:=z7k hw
    exact ⟨this.1,by rw [← h];simp;omega⟩
theorem z0z {w:ByteArray} {ts r:List Tok} {v:Unit} (h:z8z L w ts=.ok v r):r <:+ ts∧r.length<ts.length:=by
 unfold z8z at h
 split at h
 ·rename_i hs;injection h with _ h;subst h;exact ⟨List.tail_suffix ts,z4a hs⟩
 ·cases h
theorem z1o {ts r:List Tok} {v:ByteArray} (h:zcd L ts=.ok v r):r <:+ ts∧r.length<ts.length:=by
 cases ts with
 | nil=>cases h
 | cons t s =>
  simp only [zcd] at h
  split at h
  ·injection h with _ h;subst h;exact ⟨List.suffix_cons t s,by simp⟩
  ·cases h
theorem zcz {ts r:List Tok} {v:Int} (h:sNum L ts=.ok v r):r <:+ ts∧r.length<ts.length:=by
 cases ts with
 | nil=>cases h
 | cons t s =>
  simp only [sNum] at h
  split at h
  ·injection h with _ h;subst h;exact ⟨List.suffix_cons t s,by simp⟩
  ·cases h
structure Suf (L:Int) (f:Nat):Prop where
 fac:∀ d ts v r,z63 L f d ts=.ok v r→r <:+ ts
 mul:∀ d e ts v r,sMul L f d e ts=.ok v r→r <:+ ts
 term:∀ d ts v r,zdh L f d ts=.ok v r→r <:+ ts
 add:∀ d e ts v r,sAdd L f d e ts=.ok v r→r <:+ ts
 exp:∀ d ts v r,zdi L f d ts=.ok v r→r <:+ ts
theorem suf (L:Int):∀ f,Suf L f:=by
 intro f
 induction f with
 | zero=>exact ⟨fun d ts v r h=>by simp [z63] at h,fun d e ts v r h=>by simp [sMul] at h,fun d ts v r h=>by simp [zdh] at h,fun d e ts v r h=>by simp [sAdd] at h,fun d ts v r h=>by simp [zdi] at h⟩
 | succ f ih =>
  refine ⟨fun d ts v r h=>?_,fun d e ts v r h=>?_,fun d ts v r h=>?_,fun d e ts v r h=>?_,fun d ts v r h=>?_⟩
  ·simp only [z63] at h
   split at h
   ·split at h
    ·cases h
    ·obtain ⟨w,s,h1,h2⟩:=bind_ok h
     injection h2 with _ h2;subst h2
     exact (ih.fac _ _ _ _ h1).trans (List.tail_suffix ts)
   ·split at h
    ·split at h
     ·cases h
     ·obtain ⟨w,s,h1,h2⟩:=bind_ok h
      obtain ⟨w',s',h3,h4⟩:=bind_ok h2
      injection h4 with _ h4;subst h4
      exact ((z0z h3).1.trans (ih.exp _ _ _ _ h1)).trans (List.tail_suffix ts)
    ·split at h
     ·obtain ⟨w,s,h1,h2⟩:=bind_ok h
      injection h2 with _ h2;subst h2
      exact (zcz h1).1
     ·obtain ⟨w,s,h1,h2⟩:=bind_ok h
      injection h2 with _ h2;subst h2
      exact (z1o h1).1
  ·simp only [sMul] at h
   split at h
   ·injection h with _ h;subst h;exact List.suffix_refl _
   ·obtain ⟨w,s,h1,h2⟩:=bind_ok h
    exact ((ih.mul _ _ _ _ _ h2).trans (ih.fac _ _ _ _ h1)).trans (List.tail_suffix ts)
  ·simp only [zdh] at h
   obtain ⟨w,s,h1,h2⟩:=bind_ok h
   exact (ih.mul _ _ _ _ _ h2).trans (ih.fac _ _ _ _ h1)
  ·simp only [sAdd] at h
   split at h
   ·injection h with _ h;subst h;exact List.suffix_refl _
   ·obtain ⟨w,s,h1,h2⟩:=bind_ok h
    exact ((ih.add _ _ _ _ _ h2).trans (ih.term _ _ _ _ h1)).trans (List.tail_suffix ts)
  ·simp only [zdi] at h
   obtain ⟨w,s,h1,h2⟩:=bind_ok h
   exact (ih.add _ _ _ _ _ h2).trans (ih.term _ _ _ _ h1)
end
def zA:z06:=⟨0,0,ByteArray.mk #[],[]⟩
def vA:z06:=⟨2,0,ByteArray.mk #[],[]⟩
def tpE (a:z00) (e:z06):List z0g × Int × Int × Int × Int × Int × Int × Int × ByteArray × List z06:=(a.f_l,a.f_end,a.f_e,a.f_at,a.f_deep,a.f_in,e.Kind,e.Num,e.Name,e.Kids)
noncomputable def MB (n:Nat):=z2g (z1i n) (z0d n) (z1e n) (z0b n) (z0m n) (z1f n) (z1j n) mulS 6
noncomputable def AB (n:Nat):=z2x (z1i n) (z0d n) (z1e n) (z0b n) (z0m n) (z1f n) (z1j n) addS 4
abbrev E10:=List z0g × Int × Int × Int × Int × Int × Int × Int × ByteArray × List z06
def finE (j1:E10):Option (z00 × z06):=some ((z00.mk j1.1 j1.2.1 j1.2.2.1 j1.2.2.2.1 j1.2.2.2.2.1 j1.2.2.2.2.2.1),(z06.mk j1.2.2.2.2.2.2.1 j1.2.2.2.2.2.2.2.1 j1.2.2.2.2.2.2.2.2.1 j1.2.2.2.2.2.2.2.2.2))
noncomputable def MF (n:Nat) (a:z00) (e:z06):Option (z00 × z06):=iter (MB n) (tpE a e)>>=Sum.elim (fun _=>none) finE
noncomputable def AF (n:Nat) (a:z00) (e:z06):Option (z00 × z06):=iter (AB n) (tpE a e)>>=Sum.elim (fun _=>none) finE
section
variable {a:z00} (h:a.f_e≠0)
include h
theorem MF_e (n:Nat) (e:z06):MF n a e=some (a,e):=by
 obtain ⟨k,m,s,l⟩:=e
 unfold MF
 rw [z3i (r:=.inr (tpE a ⟨k,m,s,l⟩)) (by
  unfold MB z2g
  rw [if_neg (by simpa [tpE] using h)])]
 rfl
theorem AF_e (n:Nat) (e:z06):AF n a e=some (a,e):=by
 obtain ⟨k,m,s,l⟩:=e
 unfold AF
 rw [z3i (r:=.inr (tpE a ⟨k,m,s,l⟩)) (by
  unfold AB z2x
  rw [if_neg (by simpa [tpE] using h)])]
 rfl
theorem z03p (n:Nat):Sn n 1 (z0m n a) (a,vA):=by
 cases n with
 | zero=>exact .inr ⟨rfl,by omega⟩
 | succ n =>
  refine .inl ?_
  simp only [z0m,z010 h,of_e h,zpc h,Option.bind_eq_bind,Option.bind_some,Bool.false_eq_true,if_false]
  rfl
theorem z03q (n:Nat):Sn n 2 (z0b n a mulS 6) (a,vA):=by
 cases n with
 | zero=>exact .inr ⟨rfl,by omega⟩
 | succ n =>
  simp only [z0b]
  exact (Sn.bind (f:=fun v1=>MF n v1.1 v1.2) (z03p h n) (.inl (MF_e h n vA))).up
theorem z0b1 (n:Nat):Sn n 3 (z1e n a) (a,vA):=by
 cases n with
 | zero=>exact .inr ⟨rfl,by omega⟩
 | succ n =>
  simp only [z1e]
  exact (Sn.bind (f:=fun v1=>some (v1.1,v1.2)) (z03q h n) (.inl rfl)).up
theorem z03r (n:Nat):Sn n 4 (z0d n a addS 4) (a,vA):=by
 cases n with
 | zero=>exact .inr ⟨rfl,by omega⟩
 | succ n =>
  simp only [z0d]
  exact (Sn.bind (f:=fun v1=>AF n v1.1 v1.2) (z0b1 h n) (.inl (AF_e h n vA))).up
theorem z07x (n:Nat):Sn n 5 (z1i n a) (a,vA):=by
 cases n with
 | zero=>exact .inr ⟨rfl,by omega⟩
 | succ n =>
  simp only [z1i]
  exact (Sn.bind (f:=fun v1=>some (v1.1,v1.2)) (z03r h n) (.inl rfl)).up
theorem z0b2:z5j a=some (a,vA):=Sn.unf fun n=>z07x h n
end
section
variable {L i:Int} {ts:List Tok} {d:Int}
theorem z0b3 (hl:ts.length≤2000) (n:Nat) (e:z06):MF n (PS L ts d i) e=match z3p mulS ts with
  | none=>some (PS L ts d i,e)
  | some j=>z0m n (PS L ts.tail d i)>>=fun v=>MF n v.1 ⟨6+(j:Int),0,ByteArray.mk #[],[e,v.2]⟩:=by
 obtain ⟨ek,em,es,el⟩:=e
 have hw:=zqd (L:=L) (d:=d) (i:=i) hl mulS (by decide)
 have hb:MB n (tpE (PS L ts d i) ⟨ek,em,es,el⟩)=match z3p mulS ts with
   | none=>some (.inr (.inr (tpE (PS L ts d i) ⟨ek,em,es,el⟩)))
   | some j=>z0m n (PS L ts.tail d i)>>=fun v=>some (.inl (tpE v.1 ⟨6+(j:Int),0,ByteArray.mk #[],[⟨ek,em,es,el⟩,v.2]⟩)):=by
  unfold MB z2g
  rw [if_pos (by rfl)]
  show (z1u (PS L ts d i) mulS).bind _=_
  rw [hw]
  cases hs:z3p mulS ts with
  | none=>simp only [Option.bind_some];rfl
  | some j =>
   have hj:=(z7k hs).2
   have hj:j<3:=hj
   have h1:decide (((j:Nat):Int)<0)=false:=by simp
   have h2:IntKind.i64.wrap (6+(j:Int))=6+(j:Int):=w64 (by omega) (by omega)
   simp only [Option.bind_some,h1,Bool.false_eq_true,if_false,h2]
   rfl
 unfold MF
 rw [z8o,hb]
 cases hs:z3p mulS ts with
 | none=>rfl
 | some j =>
  simp only [Option.bind_eq_bind,Option.bind_assoc,Option.bind_some]
theorem z0b4 (hl:ts.length≤2000) (n:Nat) (e:z06):AF n (PS L ts d i) e=match z3p addS ts with
  | none=>some (PS L ts d i,e)
  | some j=>z1e n (PS L ts.tail d i)>>=fun v=>AF n v.1 ⟨4+(j:Int),0,ByteArray.mk #[],[e,v.2]⟩:=by
 obtain ⟨ek,em,es,el⟩:=e
 have hw:=zqd (L:=L) (d:=d) (i:=i) hl addS (by decide)
 have hb:AB n (tpE (PS L ts d i) ⟨ek,em,es,el⟩)=match z3p addS ts with
   | none=>some (.inr (.inr (tpE (PS L ts d i) ⟨ek,em,es,el⟩)))
   | some j=>z1e n (PS L ts.tail d i)>>=fun v=>some (.inl (tpE v.1 ⟨4+(j:Int),0,ByteArray.mk #[],[⟨ek,em,es,el⟩,v.2]⟩)):=by
  unfold AB z2x
  rw [if_pos (by rfl)]
  show (z1u (PS L ts d i) addS).bind _=_
  rw [hw]
  cases hs:z3p addS ts with
  | none=>simp only [Option.bind_some];rfl
  | some j =>
   have hj:=(z7k hs).2
   have hj:j<2:=hj
   have h1:decide (((j:Nat):Int)<0)=false:=by simp
   have h2:IntKind.i64.wrap (4+(j:Int))=4+(j:Int):=w64 (by omega) (by omega)
   simp only [Option.bind_some,h1,Bool.false_eq_true,if_false,h2]
   rfl
 unfold AF
 rw [z8o,hb]
 cases hs:z3p addS ts with
 | none=>rfl
 | some j =>
  simp only [Option.bind_eq_bind,Option.bind_assoc,Option.bind_some]
end
abbrev mkE:z04→z00→z00 × z06:=fun v a=>(a,cE v)
structure PX (L i:Int) (f:Nat):Prop where
 fac:∀ (d:Nat) ts,d≤24→ts.length≤2000→TP L d i Prod.fst mkE (2*f) (fun n=>z0m n (PS L ts d i)) (z63 L f d ts)
 mul:∀ (d:Nat) e ts,d≤24→ts.length≤2000→TP L d i Prod.fst mkE (2*f) (fun n=>MF n (PS L ts d i) (cE e)) (sMul L f d e ts)
 term:∀ (d:Nat) ts,d≤24→ts.length≤2000→TP L d i Prod.fst mkE (2*f) (fun n=>z1e n (PS L ts d i)) (zdh L f d ts)
 add:∀ (d:Nat) e ts,d≤24→ts.length≤2000→TP L d i Prod.fst mkE (2*f) (fun n=>AF n (PS L ts d i) (cE e)) (sAdd L f d e ts)
 exp:∀ (d:Nat) ts,d≤24→ts.length≤2000→TP L d i Prod.fst mkE (2*f) (fun n=>z1i n (PS L ts d i)) (zdi L f d ts)
theorem zhv {ρ β:Type} {L d i:Int} {π:ρ→z00} {mk:β→z00→ρ} {H:Nat} {x:Nat→Option ρ}:TP L d i π mk H x (.out:Rs β):=fun h=>absurd rfl h
theorem zkq {α β:Type} (x:Option (α × β)):(x.bind fun v=>some (v.1,v.2))=x:=by cases x <;> rfl
theorem z57 {a:z00} {c p:Int} (hc:c≠0) (h:EP a c p):a.f_e≠0:=by rw [h.1];exact hc
theorem zqe {L i:Int} {ts:List Tok} {d:Nat} (hd:d≤24):z77 (PS L ts d i)=some (if d=24 then (⟨ts.map tokT,L,6,sAt L ts,d,i⟩,false) else (PS L ts ((d+1:Nat):Int) i,true)):=by
 unfold z77
 by_cases h:d=24
 ·subst h
  rw [if_pos (by rfl),zns];rfl
 ·have:((PS L ts (d:Int) i).f_deep==24)=false:=by
   show ((d:Int)==24)=false
   simp;omega
  rw [this,if_neg (by decide),if_neg h]
  have hw:IntKind.i64.wrap ((d:Int)+1)=((d+1:Nat):Int):=by rw [w64 (by omega) (by omega)];omega
  show some ((⟨ts.map tokT,L,0,0,IntKind.i64.wrap ((d:Int)+1),i⟩:z00),true)=_
  rw [hw];rfl
theorem px (L i:Int):∀ f,PX L i f:=by
 intro f
 induction f with
 | zero=>exact ⟨fun d ts _ _=>by simp only [z63];exact zhv,fun d e ts _ _=>by simp only [sMul];exact zhv,fun d ts _ _=>by simp only [zdh];exact zhv,fun d e ts _ _=>by simp only [sAdd];exact zhv,fun d ts _ _=>by simp only [zdi];exact zhv⟩
 | succ f ih =>
  have sf:=suf L f
  refine ⟨fun d ts hd hl=>?_,fun d e ts hd hl=>?_,fun d ts hd hl=>?_,fun d e ts hd hl=>?_,fun d ts hd hl=>?_⟩
  ·-- a factor
   simp only [z63]
   cases h1:z27 (ByteArray.mk #[45]) ts with
   | true =>
    have hlt:ts.tail.length≤2000:=by have:=z4a h1;omega
    simp only [if_true]
    refine TP.up (H:=2*f+1) (x:=fun n=>z1f n (PS L ts d i)) rfl (fun n=>by simp only [z0m,ziz,h1,Option.bind_eq_bind,Option.bind_some,if_true,zkq]) ?_
    by_cases h24:d=24
    ·rw [if_pos h24]
     refine TP.up (H:=2*f) (x:=fun _=>some (⟨ts.map tokT,L,6,sAt L ts,d,i⟩,zA)) rfl (fun n=>by simp only [z1f,zqe hd,if_pos h24,Option.bind_eq_bind,Option.bind_some];rfl) ?_
     exact TP.err (fun n=>rfl) (by decide) ⟨rfl,rfl⟩
    ·rw [if_neg h24]
     refine TP.up (H:=2*f) (x:=fun n=>z0m n (PS L ts.tail ((d+1:Nat):Int) i)>>=fun v3=>some ((z00.mk v3.1.f_l v3.1.f_end v3.1.f_e v3.1.f_at (IntKind.i64.wrap (v3.1.f_deep - 1)) v3.1.f_in),(z06.mk 3 0 (ByteArray.mk #[]) [v3.2]))) rfl (fun n=>by
      simp only [z1f,zqe hd,if_neg h24,Option.bind_eq_bind,Option.bind_some,Bool.not_true,Bool.false_eq_true,if_false,zwc hl,h1,if_true]) ?_
     refine TP.bind (ih.fac (d+1) ts.tail (by omega) hlt) (fun v r hv=>TP.pure (fun n=>?_)) (fun r c p hc he=>zkp (fun n=>.inl rfl) ⟨he.1,he.2⟩)
     have hw:IntKind.i64.wrap (((d+1:Nat):Int) - 1)=(d:Int):=by rw [w64 (by omega) (by omega)];omega
     show some ((⟨r.map tokT,L,0,0,IntKind.i64.wrap (((d+1:Nat):Int) - 1),i⟩:z00),_)=_
     rw [hw]
     simp only [mkE,cE,cEs];rfl
   | false =>
    simp only [Bool.false_eq_true,if_false]
    cases h2:z27 (ByteArray.mk #[40]) ts with
    | true =>
     have hlt:ts.tail.length≤2000:=by have:=z4a h2;omega
     simp only [if_true]
     refine TP.up (H:=2*f+1) (x:=fun n=>z1j n (PS L ts d i)) rfl (fun n=>by simp only [z0m,ziz,h1,h2,Option.bind_eq_bind,Option.bind_some,if_true,Bool.false_eq_true,if_false,zkq]) ?_
     by_cases h24:d=24
     ·rw [if_pos h24]
      refine TP.up (H:=2*f) (x:=fun _=>some (⟨ts.map tokT,L,6,sAt L ts,d,i⟩,zA)) rfl (fun n=>by simp only [z1j,zqe hd,if_pos h24,Option.bind_eq_bind,Option.bind_some];rfl) ?_
      exact TP.err (fun n=>rfl) (by decide) ⟨rfl,rfl⟩
     ·rw [if_neg h24]
      refine TP.up (H:=2*f) (x:=fun n=>z1i n (PS L ts.tail ((d+1:Nat):Int) i)>>=fun v3=>z08 v3.1 (ByteArray.mk #[41])>>=fun v4=>some ((z00.mk v4.f_l v4.f_end v4.f_e v4.f_at (IntKind.i64.wrap (v4.f_deep - 1)) v4.f_in),v3.2)) rfl (fun n=>by
       simp only [z1j,zqe hd,if_neg h24,Option.bind_eq_bind,Option.bind_some,Bool.not_true,Bool.false_eq_true,if_false,zwc hl,h2,if_true]) ?_
      refine TP.bind (ih.exp (d+1) ts.tail (by omega) hlt) (fun v r hv=>?_) (fun r c p hc he=>zkp (r:=((⟨r.1.f_l,r.1.f_end,r.1.f_e,r.1.f_at,IntKind.i64.wrap (r.1.f_deep - 1),r.1.f_in⟩:z00),r.2)) (fun n=>.inl (by rw [zew (z57 hc he)];rfl)) ⟨he.1,he.2⟩)
      have hr:=(sf.exp _ _ _ _ hv).length_le
      refine TP.bind (π':=Prod.fst) (mk':=mkE) (k:=fun n v4=>some ((z00.mk v4.f_l v4.f_end v4.f_e v4.f_at (IntKind.i64.wrap (v4.f_deep - 1)) v4.f_in),cE v)) (z8r (L:=L) (d:=((d+1:Nat):Int)) (i:=i) (ts:=r) (H:=2*f) (by omega) (ByteArray.mk #[41])) (fun _ r' hv'=>TP.pure (fun n=>?_)) (fun r c p hc he=>zkp (fun n=>.inl rfl) ⟨he.1,he.2⟩)
      have hw:IntKind.i64.wrap (((d+1:Nat):Int) - 1)=(d:Int):=by rw [w64 (by omega) (by omega)];omega
      show some ((⟨r'.map tokT,L,0,0,IntKind.i64.wrap (((d+1:Nat):Int) - 1),i⟩:z00),_)=_
      rw [hw];rfl
    | false =>
     simp only [Bool.false_eq_true,if_false]
     cases h3:sOf 2 ts with
     | true =>
      simp only [if_true]
      refine (TP.up (H:=2*f) (x:=fun n=>z28 (PS L ts d i)>>=fun v6=>some (v6.1,(z06.mk 1 v6.2 (ByteArray.mk #[]) []))) rfl (fun n=>by simp only [z0m,ziz,of_P,h1,h2,h3,Option.bind_eq_bind,Option.bind_some,if_true,Bool.false_eq_true,if_false]) ?_).mono (by omega)
      refine TP.bind (z03n hl) (fun v r hv=>TP.pure (fun n=>?_)) (fun r c p hc he=>zkp (fun n=>.inl rfl) ⟨he.1,he.2⟩)
      simp only [mkE,cE,cEs]
     | false =>
      simp only [Bool.false_eq_true,if_false]
      refine (TP.up (H:=2*f) (x:=fun n=>z0h (PS L ts d i)>>=fun v7=>some (v7.1,(z06.mk 2 0 v7.2 []))) rfl (fun n=>by simp only [z0m,ziz,of_P,h1,h2,h3,Option.bind_eq_bind,Option.bind_some,Bool.false_eq_true,if_false]) ?_).mono (by omega)
      refine TP.bind (zdj hl) (fun v r hv=>TP.pure (fun n=>?_)) (fun r c p hc he=>zkp (fun n=>.inl rfl) ⟨he.1,he.2⟩)
      simp only [mkE,cE,cEs]
  ·-- products
   simp only [sMul]
   cases hs:z3p mulS ts with
   | none=>exact TP.pure (fun n=>by rw [z0b3 hl,hs])
   | some j =>
    have hlt:=(z7k hs).1
    refine (TP.eq (y:=fun n=>z0m n (PS L ts.tail d i)>>=fun v=>MF n v.1 ⟨6+(j:Int),0,ByteArray.mk #[],[cE e,v.2]⟩) ?_ (fun n=>by rw [z0b3 hl,hs])).mono (show 2*f≤2*(f+1) by omega)
    refine TP.bind (ih.fac d ts.tail hd (by omega)) (fun v r hv=>?_) (fun r c p hc he=>zkp (fun n=>.inl (MF_e (z57 hc he) n _)) ⟨he.1,he.2⟩)
    have hr:=(sf.fac _ _ _ _ hv).length_le
    have:=ih.mul d ⟨6+(j:Int),0,ByteArray.mk #[],[e,v]⟩ r hd (by omega)
    simp only [cE,cEs] at this
    exact this
  ·-- a term
   simp only [zdh]
   refine TP.up (H:=2*f+1) (x:=fun n=>z0b n (PS L ts d i) mulS 6) rfl (fun n=>by simp only [z1e,Option.bind_eq_bind,zkq];rfl) ?_
   refine TP.up (H:=2*f) (x:=fun n=>z0m n (PS L ts d i)>>=fun v1=>MF n v1.1 v1.2) rfl (fun n=>rfl) ?_
   refine TP.bind (ih.fac d ts hd hl) (fun v r hv=>?_) (fun r c p hc he=>zkp (fun n=>.inl (MF_e (z57 hc he) n _)) ⟨he.1,he.2⟩)
   have hr:=(sf.fac _ _ _ _ hv).length_le
   exact ih.mul d v r hd (by omega)
  ·-- sums
   simp only [sAdd]
   cases hs:z3p addS ts with
   | none=>exact TP.pure (fun n=>by rw [z0b4 hl,hs])
   | some j =>
    have hlt:=(z7k hs).1
    refine (TP.eq (y:=fun n=>z1e n (PS L ts.tail d i)>>=fun v=>AF n v.1 ⟨4+(j:Int),0,ByteArray.mk #[],[cE e,v.2]⟩) ?_ (fun n=>by rw [z0b4 hl,hs])).mono (show 2*f≤2*(f+1) by omega)
    refine TP.bind (ih.term d ts.tail hd (by omega)) (fun v r hv=>?_) (fun r c p hc he=>zkp (fun n=>.inl (AF_e (z57 hc he) n _)) ⟨he.1,he.2⟩)
    have hr:=(sf.term _ _ _ _ hv).length_le
    have:=ih.add d ⟨4+(j:Int),0,ByteArray.mk #[],[e,v]⟩ r hd (by omega)
    simp only [cE,cEs] at this
    exact this
  ·-- an expression
   simp only [zdi]
   refine TP.up (H:=2*f+1) (x:=fun n=>z0d n (PS L ts d i) addS 4) rfl (fun n=>by simp only [z1i,Option.bind_eq_bind,zkq];rfl) ?_
   refine TP.up (H:=2*f) (x:=fun n=>z1e n (PS L ts d i)>>=fun v1=>AF n v1.1 v1.2) rfl (fun n=>rfl) ?_
   refine TP.bind (ih.term d ts hd hl) (fun v r hv=>?_) (fun r c p hc he=>zkp (fun n=>.inl (AF_e (z57 hc he) n _)) ⟨he.1,he.2⟩)
   have hr:=(sf.term _ _ _ _ hv).length_le
   exact ih.add d v r hd (by omega)
theorem z1c {α β:Type} {o:Rs α} {k:α→List Tok→Rs β} (h:o.bind k=.out):o=.out∨∃ w s,o=.ok w s∧k w s=.out:=by
 cases o with
 | ok w s=>exact .inr ⟨w,s,rfl,h⟩
 | er c p=>cases h
 | out=>exact .inl rfl
theorem z6l {L:Int} {w:ByteArray} {ts:List Tok}:z8z L w ts≠.out:=by unfold z8z;split <;> simp
theorem za0 {L:Int} {ts:List Tok}:zcd L ts≠.out:=by
 cases ts with
 | nil=>simp [zcd]
 | cons t r=>simp only [zcd];split <;> simp
theorem zwd {L:Int} {ts:List Tok}:sNum L ts≠.out:=by
 cases ts with
 | nil=>simp [sNum]
 | cons t r=>simp only [sNum];split <;> simp
structure Fu (L:Int) (f:Nat):Prop where
 fac:∀ d ts,4*ts.length+1≤f→z63 L f d ts≠.out
 mul:∀ d e ts,4*ts.length+1≤f→sMul L f d e ts≠.out
 term:∀ d ts,4*ts.length+2≤f→zdh L f d ts≠.out
 add:∀ d e ts,4*ts.length+2≤f→sAdd L f d e ts≠.out
 exp:∀ d ts,4*ts.length+3≤f→zdi L f d ts≠.out
theorem fu (L:Int):∀ f,Fu L f:=by
 intro f
 induction f with
 | zero=>exact ⟨fun d ts h=>by omega,fun d e ts h=>by omega,fun d ts h=>by omega,fun d e ts h=>by omega,fun d ts h=>by omega⟩
 | succ f ih =>
  have sf:=suf L f
  refine ⟨fun d ts hf h=>?_,fun d e ts hf h=>?_,fun d ts hf h=>?_,fun d e ts hf h=>?_,fun d ts hf h=>?_⟩
  ·simp only [z63] at h
   split at h
   ·rename_i h1
    have:=z4a h1
    split at h
    ·cases h
    ·rcases z1c h with h|⟨w,s,h2,h3⟩
     ·exact ih.fac _ _ (by omega) h
     ·cases h3
   ·split at h
    ·rename_i h1
     have:=z4a h1
     split at h
     ·cases h
     ·rcases z1c h with h|⟨w,s,h2,h3⟩
      ·exact ih.exp _ _ (by omega) h
      ·rcases z1c h3 with h|⟨w,s,h4,h5⟩
       ·exact z6l h
       ·cases h5
    ·split at h
     ·rcases z1c h with h|⟨w,s,h2,h3⟩
      ·exact zwd h
      ·cases h3
     ·rcases z1c h with h|⟨w,s,h2,h3⟩
      ·exact za0 h
      ·cases h3
  ·simp only [sMul] at h
   split at h
   ·cases h
   ·rename_i j hj
    have:=(z7k hj).1
    rcases z1c h with h|⟨w,s,h2,h3⟩
    ·exact ih.fac _ _ (by omega) h
    ·have:=(sf.fac _ _ _ _ h2).length_le
     exact ih.mul _ _ _ (by omega) h3
  ·simp only [zdh] at h
   rcases z1c h with h|⟨w,s,h2,h3⟩
   ·exact ih.fac _ _ (by omega) h
   ·have:=(sf.fac _ _ _ _ h2).length_le
    exact ih.mul _ _ _ (by omega) h3
  ·simp only [sAdd] at h
   split at h
   ·cases h
   ·rename_i j hj
    have:=(z7k hj).1
    rcases z1c h with h|⟨w,s,h2,h3⟩
    ·exact ih.term _ _ (by omega) h
    ·have:=(sf.term _ _ _ _ h2).length_le
     exact ih.add _ _ _ (by omega) h3
  ·simp only [zdi] at h
   rcases z1c h with h|⟨w,s,h2,h3⟩
   ·exact ih.term _ _ (by omega) h
   ·have:=(sf.term _ _ _ _ h2).length_le
    exact ih.add _ _ _ (by omega) h3
section
variable (L:Int)
def eX (ts:List Tok):Rs z04:=zdi L (4*ts.length+3) 0 ts
def cmpS:List ByteArray:=[(ByteArray.mk #[61,61]),(ByteArray.mk #[33,61]),(ByteArray.mk #[60]),(ByteArray.mk #[60,61]),(ByteArray.mk #[62]),(ByteArray.mk #[62,61])]
def zll (ts:List Tok):Rs z1k:=(z8z L (ByteArray.mk #[40]) ts).bind fun _ r1=>(eX L r1).bind fun l r2=>match z3p cmpS r2 with
 | none=>.er 5 (sAt L r2)
 | some j=>(eX L r2.tail).bind fun r r3=>(z8z L (ByteArray.mk #[41]) r3).bind fun _ r4=>.ok ⟨1+(j:Int),l,r⟩ r4
abbrev nB:ByteArray:=ByteArray.mk #[]
def zop (ts:List Tok):Rs z03:=(zcd L ts).bind fun n r1=>(z8z L (ByteArray.mk #[46]) r1).bind fun _ r2=>(zcd L r2).bind fun t r3=>(z8z L (ByteArray.mk #[40]) r3).bind fun _ r4 =>
 (eX L r4).bind fun e r5=>(z8z L (ByteArray.mk #[41]) r5).bind fun _ r6=>(z8z L (ByteArray.mk #[59]) r6).bind fun _ r7=>.ok (.mk 4 n t e zC [] [] []) r7
def zfg (ts:List Tok):Rs z03:=(zll L ts).bind fun c r1=>(z8z L (ByteArray.mk #[59]) r1).bind fun _ r2=>.ok (.mk 6 nB nB zE c [] [] []) r2
def zj0 (ts:List Tok):Rs z03:=(zcd L ts).bind fun n r1=>(z8z L (ByteArray.mk #[59]) r1).bind fun _ r2=>.ok (.mk 7 n nB zE zC [] [] []) r2
def zdp (ts:List Tok):Rs z03:=(zcd L ts).bind fun n r1=>(z8z L (ByteArray.mk #[61]) r1).bind fun _ r2=>(eX L r2).bind fun e r3=>(z8z L (ByteArray.mk #[59]) r3).bind fun _ r4=>.ok (.mk 1 n nB e zC [] [] []) r4
end
section
variable {L:Int} {ts r:List Tok}
theorem zyb:eX L ts≠.out:=(fu L _).exp _ _ (Nat.le_refl _)
theorem zgt {v:z04} (h:eX L ts=.ok v r):r <:+ ts:=(suf L _).exp _ _ _ _ h
theorem zul:zll L ts≠.out:=fun h=>by
 unfold zll at h
 rcases z1c h with h|⟨_,r1,_,h⟩
 ·exact z6l h
 rcases z1c h with h|⟨l,r2,_,h⟩
 ·exact zyb h
 split at h
 ·cases h
 rcases z1c h with h|⟨_,r3,_,h⟩
 ·exact zyb h
 rcases z1c h with h|⟨_,r4,_,h⟩
 ·exact z6l h
 ·cases h
theorem zax {v:z1k} (h:zll L ts=.ok v r):r <:+ ts∧r.length<ts.length:=by
 unfold zll at h
 obtain ⟨_,r1,h1,h⟩:=bind_ok h
 obtain ⟨l,r2,h2,h⟩:=bind_ok h
 split at h
 ·cases h
 obtain ⟨e,r3,h3,h⟩:=bind_ok h
 obtain ⟨_,r4,h4,h⟩:=bind_ok h
 injection h with _ h;subst h
 have q1:=z0z h1
 have q2:=zgt h2
 have q3:=zgt h3
 have q4:=z0z h4
 have q:=q4.1.trans (q3.trans ((List.tail_suffix r2).trans q2))
 exact ⟨q.trans q1.1,by have:=q.length_le;omega⟩
theorem z07y:zop L ts≠.out:=fun h=>by
 unfold zop at h
 rcases z1c h with h|⟨_,_,_,h⟩
 ·exact za0 h
 rcases z1c h with h|⟨_,_,_,h⟩
 ·exact z6l h
 rcases z1c h with h|⟨_,_,_,h⟩
 ·exact za0 h
 rcases z1c h with h|⟨_,_,_,h⟩
 ·exact z6l h
 rcases z1c h with h|⟨_,_,_,h⟩
 ·exact zyb h
 rcases z1c h with h|⟨_,_,_,h⟩
 ·exact z6l h
 rcases z1c h with h|⟨_,_,_,h⟩
 ·exact z6l h
 ·cases h
theorem z03s {v:z03} (h:zop L ts=.ok v r):r <:+ ts:=by
 unfold zop at h
 obtain ⟨_,r1,h1,h⟩:=bind_ok h
 obtain ⟨_,r2,h2,h⟩:=bind_ok h
 obtain ⟨_,r3,h3,h⟩:=bind_ok h
 obtain ⟨_,r4,h4,h⟩:=bind_ok h
 obtain ⟨_,r5,h5,h⟩:=bind_ok h
 obtain ⟨_,r6,h6,h⟩:=bind_ok h
 obtain ⟨_,r7,h7,h⟩:=bind_ok h
 injection h with _ h;subst h
 exact (z0z h7).1.trans ((z0z h6).1.trans ((zgt h5).trans ((z0z h4).1.trans ((z1o h3).1.trans ((z0z h2).1.trans (z1o h1).1)))))
theorem z012:zfg L ts≠.out:=fun h=>by
 unfold zfg at h
 rcases z1c h with h|⟨_,_,_,h⟩
 ·exact zul h
 rcases z1c h with h|⟨_,_,_,h⟩
 ·exact z6l h
 ·cases h
theorem zyf {v:z03} (h:zfg L ts=.ok v r):r <:+ ts:=by
 unfold zfg at h
 obtain ⟨_,r1,h1,h⟩:=bind_ok h
 obtain ⟨_,r2,h2,h⟩:=bind_ok h
 injection h with _ h;subst h
 exact (z0z h2).1.trans (zax h1).1
theorem z03t:zj0 L ts≠.out:=fun h=>by
 unfold zj0 at h
 rcases z1c h with h|⟨_,_,_,h⟩
 ·exact za0 h
 rcases z1c h with h|⟨_,_,_,h⟩
 ·exact z6l h
 ·cases h
theorem z013 {v:z03} (h:zj0 L ts=.ok v r):r <:+ ts:=by
 unfold zj0 at h
 obtain ⟨_,r1,h1,h⟩:=bind_ok h
 obtain ⟨_,r2,h2,h⟩:=bind_ok h
 injection h with _ h;subst h
 exact (z0z h2).1.trans (z1o h1).1
theorem z014:zdp L ts≠.out:=fun h=>by
 unfold zdp at h
 rcases z1c h with h|⟨_,_,_,h⟩
 ·exact za0 h
 rcases z1c h with h|⟨_,_,_,h⟩
 ·exact z6l h
 rcases z1c h with h|⟨_,_,_,h⟩
 ·exact zyb h
 rcases z1c h with h|⟨_,_,_,h⟩
 ·exact z6l h
 ·cases h
theorem zyg {v:z03} (h:zdp L ts=.ok v r):r <:+ ts∧r.length<ts.length:=by
 unfold zdp at h
 obtain ⟨_,r1,h1,h⟩:=bind_ok h
 obtain ⟨_,r2,h2,h⟩:=bind_ok h
 obtain ⟨_,r3,h3,h⟩:=bind_ok h
 obtain ⟨_,r4,h4,h⟩:=bind_ok h
 injection h with _ h;subst h
 have q1:=z1o h1
 have q:=(z0z h4).1.trans ((zgt h3).trans (z0z h2).1)
 exact ⟨q.trans q1.1,by have:=q.length_le;omega⟩
end
theorem z03u {a:z00} (h:a.f_e≠0):z1u a [(ByteArray.mk #[61,61]),(ByteArray.mk #[33,61]),(ByteArray.mk #[60]),(ByteArray.mk #[60,61]),(ByteArray.mk #[62]),(ByteArray.mk #[62,61])]=some (a,-1):=z011 h _ (by decide)
instance:Inhabited z00:=⟨⟨[],0,0,0,0,0⟩⟩
instance:Inhabited z06:=⟨zA⟩
instance:Inhabited z3t:=⟨⟨0,zA,zA⟩⟩
def zCA:z3t:=⟨0,zA,zA⟩
def zSA:z05:=.mk 0 nB nB zA zCA [] [] []
instance:Inhabited z05:=⟨zSA⟩
instance:Inhabited ByteArray:=⟨nB⟩
theorem z4i {ρ:Type} {P:ρ→Prop} {x:Option ρ} {H:Nat} {r:ρ} (e:x=some r) (p:P r):∃ r,P r∧∀ n,Sn n H x r:=⟨r,p,fun _=>.inl e⟩
theorem eP {a:z00} (h:a.f_e≠0):(∀ w,z08 a w=some a)∧z0h a=some (a,ByteArray.mk #[])∧z28 a=some (a,0)∧z5j a=some (a,vA)∧(∀ w,z0j a w=some (a,false))∧(∀ c,z2f a c=some a)∧z1u a [(ByteArray.mk #[61,61]),(ByteArray.mk #[33,61]),(ByteArray.mk #[60]),(ByteArray.mk #[60,61]),(ByteArray.mk #[62]),(ByteArray.mk #[62,61])]=some (a,-1):=⟨zew h,zpc h,z0b0 h,z0b2 h,zhu h,zpb h,z03u h⟩
theorem neg1:decide ((-1:Int)<0)=true:=rfl
theorem zwe {L i:Int} {ts:List Tok} {H:Nat} (hl:ts.length≤2000):TP L 0 i Prod.fst mkE H (fun _=>z5j (PS L ts 0 i)) (eX L ts) :=
 ((px L i _).exp 0 ts (by omega) hl).unf.mono (Nat.zero_le _)
abbrev mkC:z1k→z00→z00 × z3t:=fun v a=>(a,cC v)
theorem z4q {r ts:List Tok} (h:r <:+ ts) (hl:ts.length≤2000):r.length≤2000:=by have:=h.length_le;omega
theorem z015 {L i:Int} {ts:List Tok} {H:Nat} (hl:ts.length≤2000):TP L 0 i Prod.fst mkC H (fun _=>z5k (PS L ts 0 i)) (zll L ts):=by
 unfold zll z5k
 refine TP.bind (π':=Prod.fst) (mk':=mkC) (z8r hl _) (fun _ r1 h1=>?_) (fun r c p hc he=>z4i (by simp only [eP (a:=r) (z57 hc he),Option.bind_eq_bind,Option.bind_some,neg1,if_true];rfl) ⟨he.1,he.2⟩)
 have l1:=z4q (z0z h1).1 hl
 refine TP.bind (π':=Prod.fst) (mk':=mkC) (zwe l1) (fun l r2 h2=>?_) (fun r c p hc he=>z4i (by simp only [eP (a:=r.1) (z57 hc he),Option.bind_eq_bind,Option.bind_some,neg1,if_true];rfl) ⟨he.1,he.2⟩)
 have l2:=z4q (zgt h2) l1
 have hw:=zqd (L:=L) (d:=0) (i:=i) l2 cmpS (by decide)
 cases hs:z3p cmpS r2 with
 | none =>
  rw [hs] at hw
  refine TP.err (r:=((⟨r2.map tokT,L,5,sAt L r2,0,i⟩:z00),⟨0,cE l,zA⟩)) (fun n=>?_) (by decide) ⟨rfl,rfl⟩
  show (z1u (PS L r2 0 i) cmpS).bind _=_
  rw [hw]
  simp only [Option.bind_some,neg1,if_true,zns,Option.bind_eq_bind]
  rfl
 | some j =>
  rw [hs] at hw
  have hj:=(z7k hs).2
  have hj:j<6:=hj
  have q1:decide (((j:Nat):Int)<0)=false:=by simp
  have q2:IntKind.i64.wrap (1+(j:Int))=1+(j:Int):=w64 (by omega) (by omega)
  have l3:r2.tail.length≤2000:=by have:=(z7k hs).1;omega
  refine TP.eq (y:=fun _=>z5j (PS L r2.tail 0 i)>>=fun v5=>z08 v5.1 (ByteArray.mk #[41])>>=fun v6=>some (v6,(z3t.mk (1+(j:Int)) (cE l) v5.2))) ?_ (fun n=>by
   show (z1u (PS L r2 0 i) cmpS).bind _=_
   rw [hw]
   simp only [Option.bind_some,q1,Bool.false_eq_true,if_false,q2])
  refine TP.bind (π':=Prod.fst) (mk':=mkC) (zwe l3) (fun e r3 h3=>?_) (fun r c p hc he=>z4i (by simp only [eP (a:=r.1) (z57 hc he),Option.bind_eq_bind,Option.bind_some,neg1,if_true];rfl) ⟨he.1,he.2⟩)
  have l4:=z4q (zgt h3) l3
  refine TP.bind (π':=Prod.fst) (mk':=mkC) (z8r l4 _) (fun _ r4 h4=>TP.pure (fun n=>rfl)) (fun r c p hc he=>z4i (by simp only [eP (a:=r) (z57 hc he),Option.bind_eq_bind,Option.bind_some,neg1,if_true];rfl) ⟨he.1,he.2⟩)
abbrev mkS:z03→z00→z00 × z05:=fun v a=>(a,cS v)
theorem cZ:cE zE=zA:=by simp only [zE,cE,cEs];rfl
theorem cZC:cC zC=zCA:=by unfold cC zC zCA;simp only [cZ]
theorem z0b5 {L i:Int} {ts:List Tok} {H:Nat} (hl:ts.length≤2000):TP L 0 i Prod.fst mkS H (fun _=>z7u (PS L ts 0 i)) (zop L ts):=by
 unfold zop z7u
 refine TP.bind (π':=Prod.fst) (mk':=mkS) (zdj hl) (fun n r1 h1=>?_) (fun r c p hc he=>z4i (by simp only [eP (a:=r.1) (z57 hc he),Option.bind_eq_bind,Option.bind_some,neg1,if_true];rfl) ⟨he.1,he.2⟩)
 have l1:=z4q (z1o h1).1 hl
 refine TP.bind (π':=Prod.fst) (mk':=mkS) (z8r l1 _) (fun _ r2 h2=>?_) (fun r c p hc he=>z4i (by simp only [eP (a:=r) (z57 hc he),Option.bind_eq_bind,Option.bind_some,neg1,if_true];rfl) ⟨he.1,he.2⟩)
 have l2:=z4q (z0z h2).1 l1
 refine TP.bind (π':=Prod.fst) (mk':=mkS) (zdj l2) (fun t r3 h3=>?_) (fun r c p hc he=>z4i (by simp only [eP (a:=r.1) (z57 hc he),Option.bind_eq_bind,Option.bind_some,neg1,if_true];rfl) ⟨he.1,he.2⟩)
 have l3:=z4q (z1o h3).1 l2
 refine TP.bind (π':=Prod.fst) (mk':=mkS) (z8r l3 _) (fun _ r4 h4=>?_) (fun r c p hc he=>z4i (by simp only [eP (a:=r) (z57 hc he),Option.bind_eq_bind,Option.bind_some,neg1,if_true];rfl) ⟨he.1,he.2⟩)
 have l4:=z4q (z0z h4).1 l3
 refine TP.bind (π':=Prod.fst) (mk':=mkS) (zwe l4) (fun e r5 h5=>?_) (fun r c p hc he=>z4i (by simp only [eP (a:=r.1) (z57 hc he),Option.bind_eq_bind,Option.bind_some,neg1,if_true];rfl) ⟨he.1,he.2⟩)
 have l5:=z4q (zgt h5) l4
 refine TP.bind (π':=Prod.fst) (mk':=mkS) (z8r l5 _) (fun _ r6 h6=>?_) (fun r c p hc he=>z4i (by simp only [eP (a:=r) (z57 hc he),Option.bind_eq_bind,Option.bind_some,neg1,if_true];rfl) ⟨he.1,he.2⟩)
 have l6:=z4q (z0z h6).1 l5
 refine TP.bind (π':=Prod.fst) (mk':=mkS) (z8r l6 _) (fun _ r7 h7=>TP.pure (fun n=>?_)) (fun r c p hc he=>z4i (by simp only [eP (a:=r) (z57 hc he),Option.bind_eq_bind,Option.bind_some,neg1,if_true];rfl) ⟨he.1,he.2⟩)
 simp only [mkS,cS,cZC,cL,cA]
 rfl
theorem z03v {L i:Int} {ts:List Tok} {H:Nat} (hl:ts.length≤2000):TP L 0 i Prod.fst mkS H (fun _=>z6p (PS L ts 0 i)) (zfg L ts):=by
 unfold zfg z6p
 refine TP.bind (π':=Prod.fst) (mk':=mkS) (z015 hl) (fun n r1 h1=>?_) (fun r c p hc he=>z4i (by simp only [eP (a:=r.1) (z57 hc he),Option.bind_eq_bind,Option.bind_some,neg1,if_true];rfl) ⟨he.1,he.2⟩)
 have l1:=z4q (zax h1).1 hl
 refine TP.bind (π':=Prod.fst) (mk':=mkS) (z8r l1 _) (fun _ r2 h2=>TP.pure (fun n=>?_)) (fun r c p hc he=>z4i (by simp only [eP (a:=r) (z57 hc he),Option.bind_eq_bind,Option.bind_some,neg1,if_true];rfl) ⟨he.1,he.2⟩)
 simp only [mkS,cS,cZ,cL,cA]
 rfl
theorem z07z {L i:Int} {ts:List Tok} {H:Nat} (hl:ts.length≤2000):TP L 0 i Prod.fst mkS H (fun _=>z78 (PS L ts 0 i)) (zj0 L ts):=by
 unfold zj0 z78
 refine TP.bind (π':=Prod.fst) (mk':=mkS) (zdj hl) (fun n r1 h1=>?_) (fun r c p hc he=>z4i (by simp only [eP (a:=r.1) (z57 hc he),Option.bind_eq_bind,Option.bind_some,neg1,if_true];rfl) ⟨he.1,he.2⟩)
 have l1:=z4q (z1o h1).1 hl
 refine TP.bind (π':=Prod.fst) (mk':=mkS) (z8r l1 _) (fun _ r2 h2=>TP.pure (fun n=>?_)) (fun r c p hc he=>z4i (by simp only [eP (a:=r) (z57 hc he),Option.bind_eq_bind,Option.bind_some,neg1,if_true];rfl) ⟨he.1,he.2⟩)
 simp only [mkS,cS,cZ,cZC,cL,cA]
 rfl
theorem z03w {L i:Int} {ts:List Tok} {H:Nat} (hl:ts.length≤2000):TP L 0 i Prod.fst mkS H (fun _=>z6q (PS L ts 0 i)) (zdp L ts):=by
 unfold zdp z6q
 refine TP.bind (π':=Prod.fst) (mk':=mkS) (zdj hl) (fun n r1 h1=>?_) (fun r c p hc he=>z4i (by simp only [eP (a:=r.1) (z57 hc he),Option.bind_eq_bind,Option.bind_some,neg1,if_true];rfl) ⟨he.1,he.2⟩)
 have l1:=z4q (z1o h1).1 hl
 refine TP.bind (π':=Prod.fst) (mk':=mkS) (z8r l1 _) (fun _ r2 h2=>?_) (fun r c p hc he=>z4i (by simp only [eP (a:=r) (z57 hc he),Option.bind_eq_bind,Option.bind_some,neg1,if_true];rfl) ⟨he.1,he.2⟩)
 have l2:=z4q (z0z h2).1 l1
 refine TP.bind (π':=Prod.fst) (mk':=mkS) (zwe l2) (fun e r3 h3=>?_) (fun r c p hc he=>z4i (by simp only [eP (a:=r.1) (z57 hc he),Option.bind_eq_bind,Option.bind_some,neg1,if_true];rfl) ⟨he.1,he.2⟩)
 have l3:=z4q (zgt h3) l2
 refine TP.bind (π':=Prod.fst) (mk':=mkS) (z8r l3 _) (fun _ r4 h4=>TP.pure (fun n=>?_)) (fun r c p hc he=>z4i (by simp only [eP (a:=r) (z57 hc he),Option.bind_eq_bind,Option.bind_some,neg1,if_true];rfl) ⟨he.1,he.2⟩)
 simp only [mkS,cS,cZC,cL,cA]
 rfl
section
variable {a:z00} (h:a.f_e≠0)
include h
end
section
variable (L:Int)
mutual
def z8q:Nat→Nat→List Tok→Rs (List z03)
 | 0,_,_=>.out
 | f+1,i,ts=>match zc9 f i ts with
  | none=>.ok [] ts
  | some o=>o.bind fun s r=>(z8q f i r).bind fun l r'=>.ok (s::l) r'
def zc9:Nat→Nat→List Tok→Option (Rs z03)
 | 0,_,_=>some .out
 | f+1,i,ts =>
  if z27 (ByteArray.mk #[105,102]) ts then some ((zll L ts.tail).bind fun c r1=>(z9y f i r1).bind fun b r2 =>
   if z27 (ByteArray.mk #[101,108,115,101]) r2 then (z9y f i r2.tail).bind fun l r3=>.ok (.mk 2 nB nB zE c b l []) r3 else .ok (.mk 2 nB nB zE c b [] []) r2)
  else if z27 (ByteArray.mk #[119,104,105,108,101]) ts then some ((zll L ts.tail).bind fun c r1=>(z9y f i r1).bind fun b r2=>.ok (.mk 3 nB nB zE c b [] []) r2)
  else if z27 (ByteArray.mk #[115,101,110,100]) ts then some (zop L ts.tail)
  else if z27 (ByteArray.mk #[114,101,99,118]) ts then some ((zcd L ts.tail).bind fun n r1=>(z8z L (ByteArray.mk #[123]) r1).bind fun _ r2=>(sArm f i r2).bind fun a r3=>(zfe f i r3).bind fun l r4 =>
   (z8z L (ByteArray.mk #[125]) r4).bind fun _ r5=>.ok (.mk 5 n nB zE zC [] [] (a::l)) r5)
  else if z27 (ByteArray.mk #[97,115,115,101,114,116]) ts then some (zfg L ts.tail)
  else if z27 (ByteArray.mk #[105,110,112,117,116]) ts then some (zj0 L ts.tail)
  else if sOf 1 ts then some (zdp L ts)
  else none
def sArm:Nat→Nat→List Tok→Rs z2k
 | 0,_,_=>.out
 | f+1,i,ts=>(zcd L ts).bind fun t r1=>(z8z L (ByteArray.mk #[40]) r1).bind fun _ r2=>(zcd L r2).bind fun v r3=>(z8z L (ByteArray.mk #[41]) r3).bind fun _ r4=>(z9y f i r4).bind fun b r5=>.ok (.mk t v b) r5
def zfe:Nat→Nat→List Tok→Rs (List z2k)
 | 0,_,_=>.out
 | f+1,i,ts=>if z27 (ByteArray.mk #[125]) ts then .ok [] ts else (sArm f i ts).bind fun a r=>(zfe f i r).bind fun l r'=>.ok (a::l) r'
def z9y:Nat→Nat→List Tok→Rs (List z03)
 | 0,_,_=>.out
 | f+1,i,ts=>if z27 (ByteArray.mk #[123]) ts&&decide (i=24) then .er 6 (sAt L ts)
  else (z8z L (ByteArray.mk #[123]) ts).bind fun _ r1=>(z8q f (i+1) r1).bind fun b r2=>(z8z L (ByteArray.mk #[125]) r2).bind fun _ r3=>.ok b r3
end
end
structure SufS (L:Int) (f:Nat):Prop where
 stmts:∀ i ts v r,z8q L f i ts=.ok v r→r <:+ ts
 stmt:∀ i ts v r,zc9 L f i ts=some (.ok v r)→r <:+ ts∧r.length<ts.length
 arm:∀ i ts v r,sArm L f i ts=.ok v r→r <:+ ts∧r.length<ts.length
 arms:∀ i ts v r,zfe L f i ts=.ok v r→r <:+ ts
 block:∀ i ts v r,z9y L f i ts=.ok v r→r <:+ ts
theorem zum {r s ts:List Tok} (h:r <:+ s) (q:s <:+ ts) (w:s.length<ts.length):r <:+ ts∧r.length<ts.length:=⟨h.trans q,by have:=h.length_le;omega⟩
theorem zay {w:ByteArray} {r ts:List Tok} (h:z27 w ts=true) (q:r <:+ ts.tail):r <:+ ts∧r.length<ts.length:=zum q (List.tail_suffix ts) (z4a h)
theorem sufS (L:Int):∀ f,SufS L f:=by
 intro f
 induction f with
 | zero=>exact ⟨fun i ts v r h=>by simp [z8q] at h,fun i ts v r h=>by simp [zc9] at h,fun i ts v r h=>by simp [sArm] at h,fun i ts v r h=>by simp [zfe] at h,fun i ts v r h=>by simp [z9y] at h⟩
 | succ f ih =>
  refine ⟨fun i ts v r h=>?_,fun i ts v r h=>?_,fun i ts v r h=>?_,fun i ts v r h=>?_,fun i ts v r h=>?_⟩
  ·simp only [z8q] at h
   split at h
   ·injection h with _ h;subst h;exact List.suffix_refl _
   ·rename_i o ho
    obtain ⟨s,r1,h1,h⟩:=bind_ok h
    obtain ⟨l,r2,h2,h⟩:=bind_ok h
    injection h with _ h;subst h
    subst h1
    exact (ih.stmts _ _ _ _ h2).trans (ih.stmt _ _ _ _ ho).1
  ·simp only [zc9] at h
   split at h
   ·rename_i hs
    injection h with h
    obtain ⟨c,r1,h1,h⟩:=bind_ok h
    obtain ⟨b,r2,h2,h⟩:=bind_ok h
    have q:=(ih.block _ _ _ _ h2).trans (zax h1).1
    split at h
    ·obtain ⟨l,r3,h3,h⟩:=bind_ok h
     injection h with _ h;subst h
     exact zay hs ((ih.block _ _ _ _ h3).trans ((List.tail_suffix r2).trans q))
    ·injection h with _ h;subst h
     exact zay hs q
   split at h
   ·rename_i hs
    injection h with h
    obtain ⟨c,r1,h1,h⟩:=bind_ok h
    obtain ⟨b,r2,h2,h⟩:=bind_ok h
    injection h with _ h;subst h
    exact zay hs ((ih.block _ _ _ _ h2).trans (zax h1).1)
   split at h
   ·rename_i hs
    injection h with h
    exact zay hs (z03s h)
   split at h
   ·rename_i hs
    injection h with h
    obtain ⟨n,r1,h1,h⟩:=bind_ok h
    obtain ⟨_,r2,h2,h⟩:=bind_ok h
    obtain ⟨a,r3,h3,h⟩:=bind_ok h
    obtain ⟨l,r4,h4,h⟩:=bind_ok h
    obtain ⟨_,r5,h5,h⟩:=bind_ok h
    injection h with _ h;subst h
    exact zay hs ((z0z h5).1.trans ((ih.arms _ _ _ _ h4).trans ((ih.arm _ _ _ _ h3).1.trans ((z0z h2).1.trans (z1o h1).1))))
   split at h
   ·rename_i hs
    injection h with h
    exact zay hs (zyf h)
   split at h
   ·rename_i hs
    injection h with h
    exact zay hs (z013 h)
   split at h
   ·injection h with h
    exact zyg h
   ·cases h
  ·simp only [sArm] at h
   obtain ⟨n,r1,h1,h⟩:=bind_ok h
   obtain ⟨_,r2,h2,h⟩:=bind_ok h
   obtain ⟨a,r3,h3,h⟩:=bind_ok h
   obtain ⟨_,r4,h4,h⟩:=bind_ok h
   obtain ⟨b,r5,h5,h⟩:=bind_ok h
   injection h with _ h;subst h
   have q:=z1o h1
   exact zum ((ih.block _ _ _ _ h5).trans ((z0z h4).1.trans ((z1o h3).1.trans (z0z h2).1))) q.1 q.2
  ·simp only [zfe] at h
   split at h
   ·injection h with _ h;subst h;exact List.suffix_refl _
   ·obtain ⟨s,r1,h1,h⟩:=bind_ok h
    obtain ⟨l,r2,h2,h⟩:=bind_ok h
    injection h with _ h;subst h
    exact (ih.arms _ _ _ _ h2).trans (ih.arm _ _ _ _ h1).1
  ·simp only [z9y] at h
   split at h
   ·cases h
   ·obtain ⟨_,r1,h1,h⟩:=bind_ok h
    obtain ⟨b,r2,h2,h⟩:=bind_ok h
    obtain ⟨_,r3,h3,h⟩:=bind_ok h
    injection h with _ h;subst h
    exact (z0z h3).1.trans ((ih.stmts _ _ _ _ h2).trans (z0z h1).1)
structure FuS (L:Int) (f:Nat):Prop where
 stmts:∀ i ts,3*ts.length+2≤f→z8q L f i ts≠.out
 stmt:∀ i ts,3*ts.length+1≤f→zc9 L f i ts≠some .out
 arm:∀ i ts,3*ts.length+1≤f→sArm L f i ts≠.out
 arms:∀ i ts,3*ts.length+2≤f→zfe L f i ts≠.out
 block:∀ i ts,3*ts.length+1≤f→z9y L f i ts≠.out
theorem fuS (L:Int):∀ f,FuS L f:=by
 intro f
 induction f with
 | zero=>exact ⟨fun i ts h=>by omega,fun i ts h=>by omega,fun i ts h=>by omega,fun i ts h=>by omega,fun i ts h=>by omega⟩
 | succ f ih =>
  have sf:=sufS L f
  refine ⟨fun i ts hf h=>?_,fun i ts hf h=>?_,fun i ts hf h=>?_,fun i ts hf h=>?_,fun i ts hf h=>?_⟩
  ·simp only [z8q] at h
   split at h
   ·cases h
   ·rename_i o ho
    rcases z1c h with h0|⟨s,r1,h1,h0⟩
    ·subst h0;exact ih.stmt _ _ (by omega) ho
    ·subst h1
     have:=(sf.stmt _ _ _ _ ho).2
     rcases z1c h0 with h2|⟨l,r2,h2,h3⟩
     ·exact ih.stmts _ _ (by omega) h2
     ·cases h3
  ·simp only [zc9] at h
   split at h
   ·rename_i hs
    have:=z4a hs
    injection h with h
    rcases z1c h with h|⟨c,r1,h1,h⟩
    ·exact zul h
    have q1:=(zax h1).1.length_le
    rcases z1c h with h|⟨b,r2,h2,h⟩
    ·exact ih.block _ _ (by omega) h
    have q2:=(sf.block _ _ _ _ h2).length_le
    split at h
    ·rename_i he
     have:=z4a he
     rcases z1c h with h|⟨l,r3,h3,h⟩
     ·exact ih.block _ _ (by omega) h
     ·cases h
    ·cases h
   split at h
   ·rename_i hs
    have:=z4a hs
    injection h with h
    rcases z1c h with h|⟨c,r1,h1,h⟩
    ·exact zul h
    have q1:=(zax h1).1.length_le
    rcases z1c h with h|⟨b,r2,h2,h⟩
    ·exact ih.block _ _ (by omega) h
    ·cases h
   split at h
   ·injection h with h;exact z07y h
   split at h
   ·rename_i hs
    have:=z4a hs
    injection h with h
    rcases z1c h with h|⟨n,r1,h1,h⟩
    ·exact za0 h
    have q1:=(z1o h1).2
    rcases z1c h with h|⟨_,r2,h2,h⟩
    ·exact z6l h
    have q2:=(z0z h2).2
    rcases z1c h with h|⟨a,r3,h3,h⟩
    ·exact ih.arm _ _ (by omega) h
    have q3:=(sf.arm _ _ _ _ h3).2
    rcases z1c h with h|⟨l,r4,h4,h⟩
    ·exact ih.arms _ _ (by omega) h
    rcases z1c h with h|⟨_,r5,h5,h⟩
    ·exact z6l h
    ·cases h
   split at h
   ·injection h with h;exact z012 h
   split at h
   ·injection h with h;exact z03t h
   split at h
   ·injection h with h;exact z014 h
   ·cases h
  ·simp only [sArm] at h
   rcases z1c h with h|⟨t,r1,h1,h⟩
   ·exact za0 h
   have q1:=(z1o h1).2
   rcases z1c h with h|⟨_,r2,h2,h⟩
   ·exact z6l h
   have q2:=(z0z h2).2
   rcases z1c h with h|⟨v,r3,h3,h⟩
   ·exact za0 h
   have q3:=(z1o h3).2
   rcases z1c h with h|⟨_,r4,h4,h⟩
   ·exact z6l h
   have q4:=(z0z h4).2
   rcases z1c h with h|⟨b,r5,h5,h⟩
   ·exact ih.block _ _ (by omega) h
   ·cases h
  ·simp only [zfe] at h
   split at h
   ·cases h
   ·rcases z1c h with h|⟨a,r1,h1,h⟩
    ·exact ih.arm _ _ (by omega) h
    have q1:=(sf.arm _ _ _ _ h1).2
    rcases z1c h with h|⟨l,r2,h2,h⟩
    ·exact ih.arms _ _ (by omega) h
    ·cases h
  ·simp only [z9y] at h
   split at h
   ·cases h
   ·rcases z1c h with h|⟨_,r1,h1,h⟩
    ·exact z6l h
    have q1:=(z0z h1).2
    rcases z1c h with h|⟨b,r2,h2,h⟩
    ·exact ih.stmts _ _ (by omega) h
    rcases z1c h with h|⟨_,r3,h3,h⟩
    ·exact z6l h
    ·cases h
abbrev S7:=List z0g × Int × Int × Int × Int × Int × List z05
abbrev A7:=List z0g × Int × Int × Int × Int × Int × List z0y
def tpS (a:z00) (l:List z05):S7:=(a.f_l,a.f_end,a.f_e,a.f_at,a.f_deep,a.f_in,l)
def tpA (a:z00) (l:List z0y):A7:=(a.f_l,a.f_end,a.f_e,a.f_at,a.f_deep,a.f_in,l)
noncomputable def SB (n:Nat):=z8i (z1b n) (z0u n) (z12 n) (z24 n) (z1v n) (z0n n) (z1h n)
noncomputable def RB (n:Nat):=z6i (z1b n) (z0u n) (z12 n) (z24 n) (z1v n) (z0n n) (z1h n)
noncomputable def SL (n:Nat) (a:z00) (l:List z05):Option (z00 × List z05):=iter (SB n) (tpS a l)>>=Sum.elim (fun r=>some r) (fun _=>none)
noncomputable def AL (n:Nat) (a:z00) (l:List z0y):Option (z00 × List z0y):=iter (RB n) (tpA a l)>>=Sum.elim (fun _=>none) (fun j1=>some (⟨j1.1,j1.2.1,j1.2.2.1,j1.2.2.2.1,j1.2.2.2.2.1,j1.2.2.2.2.2.1⟩,j1.2.2.2.2.2.2))
theorem z0b6 (n:Nat) (a:z00) (l:List z05):SL n a l=z0u n a>>=fun v1=>if (!v1.2.2) then some (v1.1,l) else app 288 l [v1.2.1]>>=fun v2=>SL n v1.1 v2:=by
 have hb:SB n (tpS a l)=z0u n a>>=fun v1=>if (!v1.2.2) then some (.inr (.inl (v1.1,l))) else app 288 l [v1.2.1]>>=fun v2=>some (.inl (tpS v1.1 v2)):=rfl
 unfold SL
 rw [z8o,hb]
 simp only [Option.bind_eq_bind,Option.bind_assoc]
 congr 1;funext v1
 cases v1.2.2 with
 | false=>rfl
 | true =>
  simp only [Bool.not_true,Bool.false_eq_true,if_false,Option.bind_assoc]
  congr 1
theorem AL_e {a:z00} (h:a.f_e≠0) (n:Nat) (l:List z0y):AL n a l=some (a,l):=by
 unfold AL
 rw [z3i (r:=.inr (tpA a l)) (by
  unfold RB z6i
  rw [if_neg (by simpa [tpA] using h)]
  rfl)]
 rfl
theorem z0d3 {L d i:Int} {ts:List Tok} (n:Nat) (l:List z0y):AL n (PS L ts d i) l=if z27 (ByteArray.mk #[125]) ts then some (PS L ts d i,l) else z1h n (PS L ts d i)>>=fun v=>app 56 l [v.2]>>=fun v2=>AL n v.1 v2:=by
 have hb:RB n (tpA (PS L ts d i) l)=if z27 (ByteArray.mk #[125]) ts then some (.inr (.inr (tpA (PS L ts d i) l))) else z1h n (PS L ts d i)>>=fun v=>app 56 l [v.2]>>=fun v2=>some (.inl (tpA v.1 v2)):=by
  unfold RB z6i
  rw [if_pos (by rfl)]
  show ((z3e (PS L ts d i) (ByteArray.mk #[125])>>=fun v5=>some (!v5))>>=_)=_
  rw [ziz]
  cases z27 (ByteArray.mk #[125]) ts <;> rfl
 unfold AL
 rw [z8o,hb]
 cases z27 (ByteArray.mk #[125]) ts with
 | true=>rfl
 | false =>
  simp only [Option.bind_eq_bind,Option.bind_assoc,Bool.false_eq_true,if_false]
  congr 1
section
variable {a:z00} (h:a.f_e≠0)
include h
theorem z0b7 (n:Nat):Sn n 1 (z0u n a) (a,zSA,false):=by
 cases n with
 | zero=>exact .inr ⟨rfl,by omega⟩
 | succ n =>
  refine .inl ?_
  simp only [z0u,zhu h,of_e h,Option.bind_eq_bind,Option.bind_some,Bool.false_eq_true,if_false]
  rfl
theorem SL_e (n:Nat) (l:List z05):Sn n 1 (SL n a l) (a,l):=by
 rw [z0b6]
 exact Sn.bind (f:=fun v1=>if (!v1.2.2) then some (v1.1,l) else app 288 l [v1.2.1]>>=fun v2=>SL n v1.1 v2) (z0b7 h n) (.inl rfl)
theorem zun (n:Nat):Sn n 2 (z1b n a) (a,[]):=by
 cases n with
 | zero=>exact .inr ⟨rfl,by omega⟩
 | succ n=>exact (SL_e h n []).up
end
def bE (a:z00):z00:=⟨a.f_l,a.f_end,a.f_e,a.f_at,a.f_deep,IntKind.i64.wrap (IntKind.i64.wrap (a.f_in+1) - 1)⟩
section
variable {a:z00} (h:a.f_e≠0)
include h
theorem zqf (n:Nat):Sn n 3 (z0n n a) (bE a,[]):=by
 cases n with
 | zero=>exact .inr ⟨rfl,by omega⟩
 | succ n =>
  simp only [z0n,z010 h,Option.bind_eq_bind,Option.bind_some,Bool.false_eq_true,if_false,zew h]
  refine (Sn.bind (f:=fun v4:z00 × List z05=>(z08 (z00.mk v4.1.f_l v4.1.f_end v4.1.f_e v4.1.f_at v4.1.f_deep (IntKind.i64.wrap (v4.1.f_in - 1))) (ByteArray.mk #[125])).bind fun v5=>some (v5,v4.2)) (zun (a:=⟨a.f_l,a.f_end,a.f_e,a.f_at,a.f_deep,IntKind.i64.wrap (a.f_in+1)⟩) h n) (.inl ?_)).up
  show (z08 (bE a) (ByteArray.mk #[125])).bind _=_
  rw [zew (a:=bE a) h];rfl
theorem z0d4 (n:Nat):Sn n 4 (z1h n a) (bE a,.mk nB nB []):=by
 cases n with
 | zero=>exact .inr ⟨rfl,by omega⟩
 | succ n =>
  simp only [z1h,zpc h,zew h,Option.bind_eq_bind,Option.bind_some]
  exact (Sn.bind (f:=fun v5:z00 × List z05=>some (v5.1,z0y.mk (ByteArray.mk #[]) (ByteArray.mk #[]) v5.2)) (zqf h n) (.inl rfl)).up
end
def TS (L i:Int) (H:Nat) (x:Nat→Option (z00 × z05 × Bool)) (ts:List Tok):Option (Rs z03)→Prop
 | none=>∀ n,Sn n H (x n) (PS L ts 0 i,zSA,false)
 | some o=>TP L 0 i Prod.fst (fun v a=>(a,cS v,true)) H x o
structure PT (L:Int) (f:Nat):Prop where
 stmts:∀ (i:Nat) ts acc,i≤24→ts.length≤2000→acc.length+ts.length≤2000→TP L 0 i Prod.fst (fun v a=>(a,acc++cL v)) (2*f+6) (fun n=>SL n (PS L ts 0 i) acc) (z8q L f i ts)
 stmt:∀ (i:Nat) ts,i≤24→ts.length≤2000→TS L i (2*f+6) (fun n=>z0u n (PS L ts 0 i)) ts (zc9 L f i ts)
 arm:∀ (i:Nat) ts,i≤24→ts.length≤2000→TP L 0 i Prod.fst (fun v a=>(a,cArm v)) (2*f+6) (fun n=>z1h n (PS L ts 0 i)) (sArm L f i ts)
 arms:∀ (i:Nat) ts acc,i≤24→ts.length≤2000→acc.length+ts.length≤2000→TP L 0 i Prod.fst (fun v a=>(a,acc++cA v)) (2*f+6) (fun n=>AL n (PS L ts 0 i) acc) (zfe L f i ts)
 block:∀ (i:Nat) ts,i≤24→ts.length≤2000→TP L 0 i Prod.fst (fun v a=>(a,cL v)) (2*f+6) (fun n=>z0n n (PS L ts 0 i)) (z9y L f i ts)
theorem TP.map {ρ β γ:Type} {L d i:Int} {π:ρ→z00} {mk:β→z00→ρ} {mk':γ→z00→ρ} {H:Nat} {x:Nat→Option ρ} {o:Rs β} {g:β→γ}
  (h:TP L d i π mk H x o) (e:∀ v a,mk v a=mk' (g v) a):TP L d i π mk' H x (o.bind fun v r=>.ok (g v) r):=by
 intro hne
 cases o with
 | ok v ts =>
  obtain ⟨r,hr,hs⟩:=h (by simp)
  exact ⟨r,Eq.trans hr (e v _),hs⟩
 | er c p=>exact h (by simp)
 | out=>exact absurd rfl hne
theorem z05m (x:z2k) (l:List z2k):cA (x::l)=cArm x::cA l:=by cases x;rfl
abbrev mkL:List z03→z00→z00 × List z05:=fun v a=>(a,cL v)
abbrev mkT:z03→z00→z00 × z05 × Bool:=fun v a=>(a,cS v,true)
theorem znt {L i:Int} {H:Nat} {x:Nat→Option (z00 × z05)} {o:Rs z03} (h:TP L 0 i Prod.fst mkS H x o):TP L 0 i Prod.fst mkT H (fun n=>x n>>=fun v=>some (v.1,v.2,true)) o:=by
 intro hne
 obtain ⟨r,g,s⟩:=h hne
 refine ⟨(r.1,r.2,true),?_,fun n=>Sn.bind (f:=fun v=>some (v.1,v.2,true)) (s n) (.inl rfl)⟩
 cases o with
 | ok v ts=>have g:r=mkS v (PS L ts 0 i):=g;subst g;rfl
 | er c p=>exact g
 | out=>exact absurd rfl hne
theorem pt (L:Int):∀ f,PT L f:=by
 intro f
 induction f with
 | zero=>exact ⟨fun i ts acc _ _ _=>by simp only [z8q];exact zhv,fun i ts _ _=>by simp only [zc9];exact zhv,fun i ts _ _=>by simp only [sArm];exact zhv,fun i ts acc _ _ _=>by simp only [zfe];exact zhv,fun i ts _ _=>by simp only [z9y];exact zhv⟩
 | succ f ih =>
  have sf:=sufS L f
  refine ⟨fun i ts acc hi hl ha=>?_,fun i ts hi hl=>?_,fun i ts hi hl=>?_,fun i ts acc hi hl ha=>?_,fun i ts hi hl=>?_⟩
  ·-- statements
   simp only [z8q]
   have h1:=ih.stmt i ts hi hl
   refine TP.eq (y:=fun n=>z0u n (PS L ts 0 i)>>=fun v1=>if (!v1.2.2) then some (v1.1,acc) else app 288 acc [v1.2.1]>>=fun v2=>SL n v1.1 v2) ?_ (fun n=>z0b6 n _ _)
   cases hs:zc9 L f i ts with
   | none =>
    rw [hs] at h1
    have h1:∀ n,Sn n (2*f+6) (z0u n (PS L ts 0 i)) (PS L ts 0 i,zSA,false):=h1
    refine fun _=>⟨(PS L ts 0 i,acc),by simp [GP,cL],fun n=>((h1 n).mono (show 2*f+6≤2*(f+1)+6 by omega)).bind (f:=fun v1=>if (!v1.2.2) then some (v1.1,acc) else app 288 acc [v1.2.1]>>=fun v2=>SL n v1.1 v2) (.inl rfl)⟩
   | some o =>
    rw [hs] at h1
    have h1:TP L 0 i Prod.fst mkT (2*f+6) (fun n=>z0u n (PS L ts 0 i)) o:=h1
    refine TP.mono (H:=2*f+6) ?_ (by omega)
    refine TP.bind (π':=Prod.fst) (mk':=fun v a=>(a,acc++cL v)) h1 (fun s r ho=>?_) (fun r c p hc he=>?_)
    ·subst ho
     have q:=sf.stmt _ _ _ _ hs
     have ql:=z4q q.1 hl
     refine TP.eq (y:=fun n=>SL n (PS L r 0 i) (acc++[cS s])) ?_ (fun n=>?_)
     ·refine TP.map (g:=fun l=>s::l) (ih.stmts i r (acc++[cS s]) hi ql (by simp;omega)) (fun v a=>?_)
      simp [cL]
     ·show (if (!true) then _ else (app 288 acc [cS s]).bind _)=_
      rw [z6o (by simp;omega)];rfl
    ·have hq:r.1.f_e≠0:=z57 hc he
     cases hb:r.2.2 with
     | false=>exact ⟨(r.1,acc),he,fun n=>.inl rfl⟩
     | true =>
      refine ⟨(r.1,acc++[r.2.1]),he,fun n=>?_⟩
      show Sn n _ (app 288 acc [r.2.1]>>=fun v2=>SL n r.1 v2) _
      rw [z6o (by simp;omega)]
      exact (SL_e hq n _).mono (by omega)
  ·-- a statement
   simp only [zc9]
   cases h1:z27 (ByteArray.mk #[105,102]) ts with
   | true =>
    have l0:ts.tail.length≤2000:=by have:=z4a h1;omega
    simp only [if_true]
    refine TP.up (H:=2*f+7) (x:=fun n=>z12 n (PS L ts.tail 0 i)>>=fun v=>some (v.1,v.2,true)) rfl (fun n=>by simp only [z0u,zai hl,h1,Option.bind_eq_bind,Option.bind_some,if_true]) ?_
    refine znt ?_
    refine TP.up (H:=2*f+6) (x:=fun n=>z5k (PS L ts.tail 0 i)>>=fun v1=>z0n n v1.1>>=fun v2=>z0j v2.1 (ByteArray.mk #[101,108,115,101])>>=fun v3=>if v3.2 then (z0n n v3.1>>=fun v4=>some (v4.1,(z05.mk 2 nB nB zA v1.2 v2.2 v4.2 []))) else (some (v3.1,(z05.mk 2 nB nB zA v1.2 v2.2 [] [])))) rfl (fun n=>rfl) ?_
    refine TP.bind (π':=Prod.fst) (mk':=mkS) (z015 l0) (fun c r1 h2=>?_) (fun r c p hc he=>⟨(bE r.1,.mk 2 nB nB zA r.2 [] [] []),he,fun n=>((zqf (z57 hc he) n).mono (by omega)).bind (f:=fun v2=>z0j v2.1 (ByteArray.mk #[101,108,115,101])>>=fun v3=>if v3.2 then (z0n n v3.1>>=fun v4=>some (v4.1,(z05.mk 2 nB nB zA r.2 v2.2 v4.2 []))) else (some (v3.1,(z05.mk 2 nB nB zA r.2 v2.2 [] [])))) (.inl (by rw [zhu (a:=bE r.1) (z57 hc he)];rfl))⟩)
    have l1:=z4q (zax h2).1 l0
    refine TP.bind (π':=Prod.fst) (mk':=mkS) (ih.block i r1 hi l1) (fun b r2 h3=>?_) (fun r cc p hc he=>⟨(r.1,.mk 2 nB nB zA (cC c) r.2 [] []),he,fun n=>.inl (by rw [zhu (a:=r.1) (z57 hc he)];rfl)⟩)
    have l2:=z4q (sf.block _ _ _ _ h3) l1
    cases h4:z27 (ByteArray.mk #[101,108,115,101]) r2 with
    | true =>
     have l3:r2.tail.length≤2000:=by have:=z4a h4;omega
     simp only [if_true]
     refine TP.eq (y:=fun n=>z0n n (PS L r2.tail 0 i)>>=fun v4=>some (v4.1,(z05.mk 2 nB nB zA (cC c) (cL b) v4.2 []))) ?_ (fun n=>by simp only [zai l2,h4,Option.bind_eq_bind,Option.bind_some,if_true])
     refine TP.bind (π':=Prod.fst) (mk':=mkS) (ih.block i r2.tail hi l3) (fun l r3 h5=>TP.pure (fun n=>?_)) (fun r cc p hc he=>⟨(r.1,.mk 2 nB nB zA (cC c) (cL b) r.2 []),he,fun n=>.inl rfl⟩)
     simp only [mkS,cS,cZ,cA]
    | false =>
     simp only [Bool.false_eq_true,if_false]
     refine TP.pure (fun n=>?_)
     simp only [zai l2,h4,Option.bind_eq_bind,Option.bind_some,Bool.false_eq_true,if_false,mkS,cS,cZ,cA,cL]
   | false =>
   simp only [Bool.false_eq_true,if_false]
   cases h2:z27 (ByteArray.mk #[119,104,105,108,101]) ts with
   | true =>
    have l0:ts.tail.length≤2000:=by have:=z4a h2;omega
    simp only [if_true]
    refine TP.up (H:=2*f+7) (x:=fun n=>z24 n (PS L ts.tail 0 i)>>=fun v=>some (v.1,v.2,true)) rfl (fun n=>by simp only [z0u,zai hl,h1,h2,Option.bind_eq_bind,Option.bind_some,if_true,Bool.false_eq_true,if_false]) ?_
    refine znt ?_
    refine TP.up (H:=2*f+6) (x:=fun n=>z5k (PS L ts.tail 0 i)>>=fun v1=>z0n n v1.1>>=fun v2=>some (v2.1,(z05.mk 3 nB nB zA v1.2 v2.2 [] []))) rfl (fun n=>rfl) ?_
    refine TP.bind (π':=Prod.fst) (mk':=mkS) (z015 l0) (fun c r1 h2=>?_) (fun r c p hc he=>⟨(bE r.1,.mk 3 nB nB zA r.2 [] [] []),he,fun n=>((zqf (z57 hc he) n).mono (by omega)).bind (f:=fun v2=>some (v2.1,(z05.mk 3 nB nB zA r.2 v2.2 [] []))) (.inl rfl)⟩)
    have l1:=z4q (zax h2).1 l0
    refine TP.bind (π':=Prod.fst) (mk':=mkS) (ih.block i r1 hi l1) (fun b r2 h3=>TP.pure (fun n=>?_)) (fun r cc p hc he=>⟨(r.1,.mk 3 nB nB zA (cC c) r.2 [] []),he,fun n=>.inl rfl⟩)
    simp only [mkS,cS,cZ,cA,cL]
   | false =>
   simp only [Bool.false_eq_true,if_false]
   cases h3:z27 (ByteArray.mk #[115,101,110,100]) ts with
   | true =>
    have l0:ts.tail.length≤2000:=by have:=z4a h3;omega
    simp only [if_true]
    refine TP.mono (H:=1) ?_ (by omega)
    refine TP.up (H:=0) (x:=fun n=>z7u (PS L ts.tail 0 i)>>=fun v=>some (v.1,v.2,true)) rfl (fun n=>by simp only [z0u,zai hl,h1,h2,h3,Option.bind_eq_bind,Option.bind_some,if_true,Bool.false_eq_true,if_false]) ?_
    exact znt (z0b5 l0)
   | false =>
   simp only [Bool.false_eq_true,if_false]
   cases h4:z27 (ByteArray.mk #[114,101,99,118]) ts with
   | true =>
    have l0:ts.tail.length≤2000:=by have:=z4a h4;omega
    simp only [if_true]
    refine TP.up (H:=2*f+7) (x:=fun n=>z1v n (PS L ts.tail 0 i)>>=fun v=>some (v.1,v.2,true)) rfl (fun n=>by simp only [z0u,zai hl,h1,h2,h3,h4,Option.bind_eq_bind,Option.bind_some,if_true,Bool.false_eq_true,if_false]) ?_
    refine znt ?_
    refine TP.up (H:=2*f+6) (x:=fun n=>z0h (PS L ts.tail 0 i)>>=fun v1=>z08 v1.1 (ByteArray.mk #[123])>>=fun v2=>z1h n v2>>=fun v3=>app 56 [] [v3.2]>>=fun v4=>AL n v3.1 v4>>=fun w=>z08 w.1 (ByteArray.mk #[125])>>=fun v8=>some (v8,(z05.mk 5 v1.2 nB zA zCA [] [] w.2))) rfl (fun n=>by
     simp only [z1v,Option.bind_eq_bind]
     congr 1;funext v1
     congr 1;funext v2
     congr 1;funext v3
     congr 1;funext v4
     unfold AL
     rw [Option.bind_eq_bind,Option.bind_assoc]
     show (iter (RB n) (tpA v3.1 v4)).bind _=(iter (RB n) (tpA v3.1 v4)).bind _
     congr 1;funext o
     cases o <;> rfl) ?_
    have er:∀ (a:z00) (m:ByteArray),a.f_e≠0→∀ n,Sn n (2*f+6) (z1h n a>>=fun v3=>app 56 [] [v3.2]>>=fun v4=>AL n v3.1 v4>>=fun w=>z08 w.1 (ByteArray.mk #[125])>>=fun v8=>some (v8,(z05.mk 5 m nB zA zCA [] [] w.2))) (bE a,.mk 5 m nB zA zCA [] [] [.mk nB nB []]):=fun a m h n=>by
     refine ((z0d4 h n).mono (show 4≤2*f+6 by omega)).bind (f:=fun v3=>app 56 [] [v3.2]>>=fun v4=>AL n v3.1 v4>>=fun w=>z08 w.1 (ByteArray.mk #[125])>>=fun v8=>some (v8,(z05.mk 5 m nB zA zCA [] [] w.2))) (.inl ?_)
     rw [z6o (by simp)]
     show (AL n (bE a) _).bind _=_
     rw [AL_e (a:=bE a) h]
     show (z08 (bE a) _).bind _=_
     rw [zew (a:=bE a) h];rfl
    refine TP.bind (π':=Prod.fst) (mk':=mkS) (zdj l0) (fun m r1 q1=>?_) (fun r c p hc he=>⟨(bE r.1,.mk 5 r.2 nB zA zCA [] [] [.mk nB nB []]),he,fun n=>by rw [zew (z57 hc he)];exact er r.1 r.2 (z57 hc he) n⟩)
    have l1:=z4q (z1o q1).1 l0
    refine TP.bind (π':=Prod.fst) (mk':=mkS) (z8r l1 _) (fun _ r2 q2=>?_) (fun r c p hc he=>⟨(bE r,.mk 5 m nB zA zCA [] [] [.mk nB nB []]),he,fun n=>er r m (z57 hc he) n⟩)
    have l2:=z4q (z0z q2).1 l1
    refine TP.bind (π':=Prod.fst) (mk':=mkS) (ih.arm i r2 hi l2) (fun x r3 q3=>?_) (fun r c p hc he=>⟨(r.1,.mk 5 m nB zA zCA [] [] [r.2]),he,fun n=>.inl (by
     rw [z6o (by simp)]
     show (AL n r.1 _).bind _=_
     rw [AL_e (z57 hc he)]
     show (z08 r.1 _).bind _=_
     rw [zew (z57 hc he)];rfl)⟩)
    have z3:=sf.arm _ _ _ _ q3
    have l3:=z4q z3.1 l2
    refine TP.eq (y:=fun n=>AL n (PS L r3 0 i) [cArm x]>>=fun w=>z08 w.1 (ByteArray.mk #[125])>>=fun v8=>some (v8,(z05.mk 5 m nB zA zCA [] [] w.2))) ?_ (fun n=>by rw [z6o (by simp)];rfl)
    refine TP.bind (π':=Prod.fst) (mk':=mkS) (ih.arms i r3 [cArm x] hi l3 (by simp;omega)) (fun l r4 q4=>?_) (fun r c p hc he=>⟨(r.1,.mk 5 m nB zA zCA [] [] r.2),he,fun n=>.inl (by rw [zew (z57 hc he)];rfl)⟩)
    have l4:=z4q (sf.arms _ _ _ _ q4) l3
    refine TP.bind (π':=Prod.fst) (mk':=mkS) (z8r l4 _) (fun _ r5 q5=>TP.pure (fun n=>?_)) (fun r c p hc he=>⟨(r,.mk 5 m nB zA zCA [] [] ([cArm x]++cA l)),he,fun n=>.inl rfl⟩)
    simp only [mkS,cS,cZ,cZC,cL,z05m,List.singleton_append]
   | false =>
   simp only [Bool.false_eq_true,if_false]
   cases h5:z27 (ByteArray.mk #[97,115,115,101,114,116]) ts with
   | true =>
    have l0:ts.tail.length≤2000:=by have:=z4a h5;omega
    simp only [if_true]
    refine TP.mono (H:=1) ?_ (by omega)
    refine TP.up (H:=0) (x:=fun n=>z6p (PS L ts.tail 0 i)>>=fun v=>some (v.1,v.2,true)) rfl (fun n=>by simp only [z0u,zai hl,h1,h2,h3,h4,h5,Option.bind_eq_bind,Option.bind_some,if_true,Bool.false_eq_true,if_false]) ?_
    exact znt (z03v l0)
   | false =>
   simp only [Bool.false_eq_true,if_false]
   cases h6:z27 (ByteArray.mk #[105,110,112,117,116]) ts with
   | true =>
    have l0:ts.tail.length≤2000:=by have:=z4a h6;omega
    simp only [if_true]
    refine TP.mono (H:=1) ?_ (by omega)
    refine TP.up (H:=0) (x:=fun n=>z78 (PS L ts.tail 0 i)>>=fun v=>some (v.1,v.2,true)) rfl (fun n=>by simp only [z0u,zai hl,h1,h2,h3,h4,h5,h6,Option.bind_eq_bind,Option.bind_some,if_true,Bool.false_eq_true,if_false]) ?_
    exact znt (z07z l0)
   | false =>
   simp only [Bool.false_eq_true,if_false]
   cases h7:sOf 1 ts with
   | true =>
    simp only [if_true]
    refine TP.mono (H:=1) ?_ (by omega)
    refine TP.up (H:=0) (x:=fun n=>z6q (PS L ts 0 i)>>=fun v=>some (v.1,v.2,true)) rfl (fun n=>by simp only [z0u,zai hl,of_P,h1,h2,h3,h4,h5,h6,h7,Option.bind_eq_bind,Option.bind_some,if_true,Bool.false_eq_true,if_false]) ?_
    exact znt (z03w hl)
   | false =>
    simp only [Bool.false_eq_true,if_false]
    intro n
    cases n with
    | zero=>exact .inr ⟨rfl,by omega⟩
    | succ n =>
     refine .inl ?_
     simp only [z0u,zai hl,of_P,h1,h2,h3,h4,h5,h6,h7,Option.bind_eq_bind,Option.bind_some,Bool.false_eq_true,if_false]
     rfl
  ·-- an arm
   simp only [sArm]
   refine TP.mono (H:=2*f+7) ?_ (by omega)
   refine TP.up (H:=2*f+6) (x:=fun n=>z0h (PS L ts 0 i)>>=fun v1=>z08 v1.1 (ByteArray.mk #[40])>>=fun v2=>z0h v2>>=fun v3=>z08 v3.1 (ByteArray.mk #[41])>>=fun v4=>z0n n v4>>=fun v5=>some (v5.1,(z0y.mk v1.2 v3.2 v5.2))) rfl (fun n=>rfl) ?_
   have er:∀ (a:z00) (s t:ByteArray),a.f_e≠0→∀ n,Sn n (2*f+6) (z0n n a>>=fun v5=>some (v5.1,(z0y.mk s t v5.2))) (bE a,.mk s t []):=fun a s t h n=>((zqf h n).mono (by omega)).bind (f:=fun v5=>some (v5.1,(z0y.mk s t v5.2))) (.inl rfl)
   refine TP.bind (π':=Prod.fst) (mk':=fun v a=>(a,cArm v)) (zdj hl) (fun t r1 q1=>?_) (fun r c p hc he=>⟨(bE r.1,.mk r.2 nB []),he,fun n=>by
    have h:=z57 hc he
    simp only [zew h,zpc h,Option.bind_eq_bind,Option.bind_some]
    exact er r.1 r.2 nB h n⟩)
   have l1:=z4q (z1o q1).1 hl
   refine TP.bind (π':=Prod.fst) (mk':=fun v a=>(a,cArm v)) (z8r l1 _) (fun _ r2 q2=>?_) (fun r c p hc he=>⟨(bE r,.mk t nB []),he,fun n=>by
    have h:r.f_e≠0:=z57 hc he
    simp only [zew h,zpc h,Option.bind_eq_bind,Option.bind_some]
    exact er r t nB h n⟩)
   have l2:=z4q (z0z q2).1 l1
   refine TP.bind (π':=Prod.fst) (mk':=fun v a=>(a,cArm v)) (zdj l2) (fun w r3 q3=>?_) (fun r c p hc he=>⟨(bE r.1,.mk t r.2 []),he,fun n=>by
    have h:=z57 hc he
    simp only [zew h,Option.bind_eq_bind,Option.bind_some]
    exact er r.1 t r.2 h n⟩)
   have l3:=z4q (z1o q3).1 l2
   refine TP.bind (π':=Prod.fst) (mk':=fun v a=>(a,cArm v)) (z8r l3 _) (fun _ r4 q4=>?_) (fun r c p hc he=>⟨(bE r,.mk t w []),he,fun n=>er r t w (z57 hc he) n⟩)
   have l4:=z4q (z0z q4).1 l3
   refine TP.bind (π':=Prod.fst) (mk':=fun v a=>(a,cArm v)) (ih.block i r4 hi l4) (fun b r5 q5=>TP.pure (fun n=>rfl)) (fun r c p hc he=>⟨(r.1,.mk t w r.2),he,fun n=>.inl rfl⟩)
  ·-- arms
   simp only [zfe]
   refine TP.eq (y:=fun n=>if z27 (ByteArray.mk #[125]) ts then some (PS L ts 0 i,acc) else z1h n (PS L ts 0 i)>>=fun v=>app 56 acc [v.2]>>=fun v2=>AL n v.1 v2) ?_ (fun n=>z0d3 n acc)
   cases h1:z27 (ByteArray.mk #[125]) ts with
   | true =>
    simp only [if_true]
    exact TP.pure (fun n=>by simp [cA])
   | false =>
    simp only [Bool.false_eq_true,if_false]
    refine TP.mono (H:=2*f+6) ?_ (by omega)
    refine TP.bind (π':=Prod.fst) (mk':=fun v a=>(a,acc++cA v)) (ih.arm i ts hi hl) (fun x r ho=>?_) (fun r c p hc he=>⟨(r.1,acc++[r.2]),he,fun n=>.inl (by
     rw [z6o (by simp;omega)]
     exact AL_e (z57 hc he) n _)⟩)
    have q:=sf.arm _ _ _ _ ho
    have ql:=z4q q.1 hl
    refine TP.eq (y:=fun n=>AL n (PS L r 0 i) (acc++[cArm x])) ?_ (fun n=>?_)
    ·refine TP.map (g:=fun l=>x::l) (ih.arms i r (acc++[cArm x]) hi ql (by simp;omega)) (fun v a=>?_)
     simp [z05m]
    ·show (app 56 acc [cArm x]).bind _=_
     rw [z6o (by simp;omega)];rfl
  ·-- a block
   simp only [z9y]
   cases h1:(z27 (ByteArray.mk #[123]) ts&&decide (i=24)) with
   | true =>
    simp only [Bool.and_eq_true,decide_eq_true_eq] at h1
    simp only [if_true]
    obtain ⟨h1,h2⟩:=h1
    subst h2
    refine TP.mono (H:=1) ?_ (by omega)
    refine TP.up (H:=0) (x:=fun n=>some (⟨ts.map tokT,L,6,sAt L ts,0,24⟩,[])) rfl (fun n=>by
     simp only [z0n,ziz,h1,Option.bind_eq_bind,Option.bind_some,if_true,zns]
     rfl) ?_
    exact TP.err (fun n=>rfl) (by decide) ⟨rfl,rfl⟩
   | false =>
    simp only [Bool.false_eq_true,if_false]
    have hj:(if z27 (ByteArray.mk #[123]) ts then some ((PS L ts 0 i).f_in==24) else some false)=some false:=by
     cases hs:z27 (ByteArray.mk #[123]) ts with
     | false=>rfl
     | true =>
      rw [hs] at h1
      have h1:decide (i=24)=false:=h1
      have:((i:Int)==24)=false:=by simp at h1 ⊢;omega
      show some ((i:Int)==24)=_
      rw [this]
    refine TP.mono (H:=2*f+8) ?_ (by omega)
    refine TP.up (H:=2*f+7) (x:=fun n=>z08 (PS L ts 0 i) (ByteArray.mk #[123])>>=fun v3=>z1b n (z00.mk v3.f_l v3.f_end v3.f_e v3.f_at v3.f_deep (IntKind.i64.wrap (v3.f_in+1)))>>=fun v4=>z08 (z00.mk v4.1.f_l v4.1.f_end v4.1.f_e v4.1.f_at v4.1.f_deep (IntKind.i64.wrap (v4.1.f_in - 1))) (ByteArray.mk #[125])>>=fun v5=>some (v5,v4.2)) rfl (fun n=>by
     simp only [z0n,ziz,Option.bind_eq_bind,Option.bind_some,hj,Bool.false_eq_true,if_false]) ?_
    refine TP.bind (π':=Prod.fst) (mk':=mkL) (z8r hl _) (fun _ r1 q1=>?_) (fun r c p hc he=>⟨(bE r,[]),he,fun n=>by
     have h:r.f_e≠0:=z57 hc he
     refine ((zun (a:=⟨r.f_l,r.f_end,r.f_e,r.f_at,r.f_deep,IntKind.i64.wrap (r.f_in+1)⟩) h n).mono (by omega)).bind (f:=fun v4:z00 × List z05=>z08 (z00.mk v4.1.f_l v4.1.f_end v4.1.f_e v4.1.f_at v4.1.f_deep (IntKind.i64.wrap (v4.1.f_in - 1))) (ByteArray.mk #[125])>>=fun v5=>some (v5,v4.2)) (.inl ?_)
     show (z08 (bE r) (ByteArray.mk #[125])).bind _=_
     rw [zew (a:=bE r) h];rfl⟩)
    have l1:=z4q (z0z q1).1 hl
    have hi':i+1≤24:=by
     have hs:z27 (ByteArray.mk #[123]) ts=true:=by
      unfold z8z at q1
      split at q1
      ·assumption
      ·cases q1
     rw [hs] at h1
     have h1:decide (i=24)=false:=h1
     simp at h1;omega
    have w1:IntKind.i64.wrap ((PS L r1 0 i).f_in+1)=((i+1:Nat):Int):=by
     show IntKind.i64.wrap ((i:Int)+1)=_
     rw [w64 (by omega) (by omega)];omega
    have hsl:TP L 0 ((i+1:Nat):Int) Prod.fst mkL (2*f+7) (fun n=>z1b n (PS L r1 0 ((i+1:Nat):Int))) (z8q L f (i+1) r1):=TP.up (x:=fun n=>SL n (PS L r1 0 ((i+1:Nat):Int)) []) rfl (fun n=>rfl) (by
     have:=ih.stmts (i+1) r1 [] hi' l1 (by simpa using l1)
     simpa using this)
    refine TP.eq (y:=fun n=>z1b n (PS L r1 0 ((i+1:Nat):Int))>>=fun v4=>z08 (z00.mk v4.1.f_l v4.1.f_end v4.1.f_e v4.1.f_at v4.1.f_deep (IntKind.i64.wrap (v4.1.f_in - 1))) (ByteArray.mk #[125])>>=fun v5=>some (v5,v4.2)) ?_ (fun n=>by
     show z1b n ⟨r1.map tokT,L,0,0,0,IntKind.i64.wrap ((PS L r1 0 i).f_in+1)⟩>>=_=_
     rw [w1];rfl)
    refine TP.bind (π':=Prod.fst) (mk':=mkL) hsl (fun b r2 q2=>?_) (fun r c p hc he=>⟨(⟨r.1.f_l,r.1.f_end,r.1.f_e,r.1.f_at,r.1.f_deep,IntKind.i64.wrap (r.1.f_in - 1)⟩,r.2),he,fun n=>.inl (by
     rw [zew (a:=⟨r.1.f_l,r.1.f_end,r.1.f_e,r.1.f_at,r.1.f_deep,IntKind.i64.wrap (r.1.f_in - 1)⟩) (z57 hc he)];rfl)⟩)
    have l2:=z4q (sf.stmts _ _ _ _ q2) l1
    have w2:IntKind.i64.wrap ((PS L r2 0 ((i+1:Nat):Int)).f_in - 1)=(i:Int):=by
     show IntKind.i64.wrap (((i+1:Nat):Int) - 1)=_
     rw [w64 (by omega) (by omega)];omega
    refine TP.eq (y:=fun n=>z08 (PS L r2 0 i) (ByteArray.mk #[125])>>=fun v5=>some (v5,cL b)) ?_ (fun n=>by
     show z08 ⟨r2.map tokT,L,0,0,0,IntKind.i64.wrap ((PS L r2 0 ((i+1:Nat):Int)).f_in - 1)⟩ _>>=_=_
     rw [w2];rfl)
    exact TP.bind (π':=Prod.fst) (mk':=mkL) (z8r l2 _) (fun _ r3 q3=>TP.pure (fun n=>rfl)) (fun r c p hc he=>⟨(r,cL b),he,fun n=>.inl rfl⟩)
def z9d {α:Type} (more:List Tok→Option (Rs α)):Nat→List Tok→Rs (List α)
 | 0,_=>.out
 | f+1,ts=>match more ts with
  | none=>.ok [] ts
  | some o=>o.bind fun v r=>(z9d more f r).bind fun l r'=>.ok (v::l) r'
structure More {α:Type} (more:List Tok→Option (Rs α)):Prop where
 suf:∀ ts v r,more ts=some (.ok v r)→r <:+ ts∧r.length<ts.length
 ne:∀ ts,more ts≠some .out
theorem z8u {α:Type} {more:List Tok→Option (Rs α)} (m:More more):∀ f ts v r,z9d more f ts=.ok v r→r <:+ ts:=by
 intro f
 induction f with
 | zero=>intro ts v r h;cases h
 | succ f ih =>
  intro ts v r h
  simp only [z9d] at h
  split at h
  ·injection h with _ h;subst h;exact List.suffix_refl _
  ·rename_i o ho
   obtain ⟨s,r1,h1,h0⟩:=bind_ok h
   obtain ⟨l,r2,h2,h3⟩:=bind_ok h0
   injection h3 with _ h3;subst h3;subst h1
   exact (ih _ _ _ h2).trans (m.suf _ _ _ ho).1
theorem zlm {α:Type} {more:List Tok→Option (Rs α)} (m:More more):∀ f ts,ts.length+1≤f→z9d more f ts≠.out:=by
 intro f
 induction f with
 | zero=>intro ts h;omega
 | succ f ih =>
  intro ts hf h
  simp only [z9d] at h
  split at h
  ·cases h
  ·rename_i o ho
   rcases z1c h with h0|⟨s,r1,h1,h0⟩
   ·subst h0;exact m.ne _ ho
   ·subst h1
    have:=(m.suf _ _ _ ho).2
    rcases z1c h0 with h2|⟨l,r2,h2,h3⟩
    ·exact ih _ (by omega) h2
    ·cases h3
abbrev T7 (β:Type):=List z0g × Int × Int × Int × Int × Int × List β
def tp7 {β:Type} (a:z00) (l:List β):T7 β:=(a.f_l,a.f_end,a.f_e,a.f_at,a.f_deep,a.f_in,l)
noncomputable def LF {β O:Type} (body:T7 β→Option (Sum (T7 β) (Sum O (T7 β)))) (a:z00) (l:List β):Option (z00 × List β) :=
 iter body (tp7 a l)>>=Sum.elim (fun _=>none) (fun j1=>some (⟨j1.1,j1.2.1,j1.2.2.1,j1.2.2.2.1,j1.2.2.2.2.1,j1.2.2.2.2.2.1⟩,j1.2.2.2.2.2.2))
section
variable {β O:Type} {body:T7 β→Option (Sum (T7 β) (Sum O (T7 β)))} {a:z00} {l:List β}
theorem zlz (h:body (tp7 a l)=some (.inr (.inr (tp7 a l)))):LF body a l=some (a,l):=by unfold LF;rw [z3i h];rfl
theorem z080 {x:Option (z00 × List β)} (h:body (tp7 a l)=x>>=fun v=>some (.inl (tp7 v.1 v.2))):LF body a l=x>>=fun v=>LF body v.1 v.2:=by
 unfold LF
 rw [z8o,h]
 simp only [Option.bind_eq_bind,Option.bind_assoc]
 congr 1
theorem zwf {ρ:Type} (k:z00 × List β→Option ρ):iter body (tp7 a l)>>=Sum.elim (fun _=>none) (fun j1=>k (⟨j1.1,j1.2.1,j1.2.2.1,j1.2.2.2.1,j1.2.2.2.2.1,j1.2.2.2.2.2.1⟩,j1.2.2.2.2.2.2))=LF body a l>>=k:=by
 unfold LF
 simp only [Option.bind_eq_bind,Option.bind_assoc]
 congr 1;funext o
 cases o <;> rfl
end
theorem zpd {β γ O:Type} {L d i:Int} {body:T7 β→Option (Sum (T7 β) (Sum O (T7 β)))} {more:List Tok→Option (Rs γ)} {cv:γ→β} (m:More more)
  (h0:∀ ts l,ts.length≤2000→more ts=none→body (tp7 (PS L ts d i) l)=some (.inr (.inr (tp7 (PS L ts d i) l))))
  (h1:∀ ts o,ts.length≤2000→more ts=some o→∃ x,TP L d i Prod.fst (fun v a=>(a,cv v)) 0 (fun _=>x) o∧∀ l:List β,l.length≤2000→body (tp7 (PS L ts d i) l)=x>>=fun v=>some (.inl (tp7 v.1 (l++[v.2]))))
  (h2:∀ a l,a.f_e≠0→body (tp7 a l)=some (.inr (.inr (tp7 a l)))) :
  ∀ f ts (l:List β),ts.length≤2000→l.length+ts.length≤2000→TP L d i Prod.fst (fun (v:List γ) a=>(a,l++v.map cv)) 0 (fun _=>LF body (PS L ts d i) l) (z9d more f ts):=by
 intro f
 induction f with
 | zero=>intro ts l _ _;exact zhv
 | succ f ih =>
  intro ts l ht hl
  simp only [z9d]
  cases hm:more ts with
  | none=>exact TP.pure (fun n=>by rw [zlz (h0 ts l ht hm)];simp)
  | some o =>
   obtain ⟨x,hx,hb⟩:=h1 ts o ht hm
   refine TP.eq (y:=fun _=>x>>=fun v=>LF body v.1 (l++[v.2])) ?_ (fun n=>by
    rw [z080 (x:=x>>=fun v=>some (v.1,l++[v.2])) (by rw [hb l (by omega)];simp only [Option.bind_eq_bind,Option.bind_assoc,Option.bind_some])]
    simp only [Option.bind_eq_bind,Option.bind_assoc,Option.bind_some])
   refine TP.bind (π':=Prod.fst) (mk':=fun (v:List γ) a=>(a,l++v.map cv)) hx (fun v r ho=>?_) (fun r c p hc he=>⟨(r.1,l++[r.2]),he,fun n=>.inl (zlz (h2 r.1 _ (z57 hc he)))⟩)
   subst ho
   have q:=m.suf _ _ _ hm
   refine TP.map (g:=fun w=>v::w) (ih r (l++[cv v]) (z4q q.1 ht) (by simp;omega)) (fun w a=>by simp)
section
variable (L:Int)
def zoq:List ByteArray:=[(ByteArray.mk #[98,108,111,99,107]),(ByteArray.mk #[100,114,111,112]),(ByteArray.mk #[108,111,115,115,121])]
def mTag (ts:List Tok):Option (Rs ByteArray):=if z27 (ByteArray.mk #[44]) ts then some (zcd L ts.tail) else none
def znu (ts:List Tok):Rs z3l:=(zcd L ts).bind fun n r1=>match z3p zoq r1 with
 | none=>.er 5 (sAt L r1)
 | some j=>(sNum L r1.tail).bind fun z r2=>(z8z L (ByteArray.mk #[102,114,111,109]) r2).bind fun _ r3=>(zcd L r3).bind fun a r4=>(z8z L (ByteArray.mk #[116,111]) r4).bind fun _ r5=>(zcd L r5).bind fun b r6 =>
  (z8z L (ByteArray.mk #[123]) r6).bind fun _ r7=>(zcd L r7).bind fun t r8=>(z9d (mTag L) (r8.length+1) r8).bind fun l r9=>(z8z L (ByteArray.mk #[125]) r9).bind fun _ r10=>(z8z L (ByteArray.mk #[59]) r10).bind fun _ r11=>.ok ⟨n,(j:Int),z,a,b,t::l⟩ r11
def zqg (ts:List Tok):Rs z6c:=(sNum L ts).bind fun a r1=>(zcd L r1).bind fun t r2=>(sNum L r2).bind fun b r3=>(z8z L (ByteArray.mk #[59]) r3).bind fun _ r4=>.ok ⟨a,t,b⟩ r4
def zor (ts:List Tok):Option (Rs z6c):=if z27 (ByteArray.mk #[125]) ts then none else some (zqg L ts)
def znv (ts:List Tok):Rs z4t:=(zcd L ts).bind fun n r1=>(z8z L (ByteArray.mk #[123]) r1).bind fun _ r2=>(z9d (zor L) (r2.length+1) r2).bind fun l r3=>(z8z L (ByteArray.mk #[125]) r3).bind fun _ r4=>.ok ⟨n,l⟩ r4
def mVar (ts:List Tok):Option (Rs ByteArray):=if z27 (ByteArray.mk #[118,97,114]) ts then some ((zcd L ts.tail).bind fun n r1=>(z8z L (ByteArray.mk #[59]) r1).bind fun _ r2=>.ok n r2) else none
def zm5 (ts:List Tok):Rs (List z03):=z8q L (3*ts.length+2) 0 ts
def zli (ts:List Tok):Rs z31:=(zcd L ts).bind fun n r1=>(z8z L (ByteArray.mk #[123]) r1).bind fun _ r2=>(z9d (mVar L) (r2.length+1) r2).bind fun l r3=>(zm5 L r3).bind fun b r4=>(z8z L (ByteArray.mk #[125]) r4).bind fun _ r5=>.ok ⟨n,l,b⟩ r5
def zlj (ts:List Tok):Option (Rs z3l):=if z27 (ByteArray.mk #[99,104,97,110]) ts then some (znu L ts.tail) else none
def zlk (ts:List Tok):Option (Rs z4t):=if z27 (ByteArray.mk #[114,117,108,101]) ts then some (znv L ts.tail) else none
def zio (ts:List Tok):Option (Rs z31):=if z27 (ByteArray.mk #[112,114,111,99]) ts then some (zli L ts.tail) else none
def sSys (ts:List Tok):Rs z0i:=(z9d (zlj L) (ts.length+1) ts).bind fun c r1=>(z9d (zlk L) (r1.length+1) r1).bind fun r r2=>(z9d (zio L) (r2.length+1) r2).bind fun p r3=>.ok ⟨c,r,p⟩ r3
def sAll (ts:List Tok):Rs z0i:=(sSys L ts).bind fun v r=>match r with|[]=>.ok v []|t::_=>.er 5 (t.at_:Int)
end
section
variable {L:Int}
theorem znw:More (mTag L) where
 suf:=fun ts v r h=>by
  unfold mTag at h;split at h
  ·rename_i hs;injection h with h;exact zay hs (z1o h).1
  ·cases h
 ne:=fun ts h=>by
  unfold mTag at h;split at h
  ·injection h with h;exact za0 h
  ·cases h
theorem z03x {ts r:List Tok} {v:z3l} (h:znu L ts=.ok v r):r <:+ ts:=by
 unfold znu at h
 obtain ⟨_,r1,h1,h⟩:=bind_ok h
 split at h
 ·cases h
 rename_i j hj
 obtain ⟨_,r2,h2,h⟩:=bind_ok h
 obtain ⟨_,r3,h3,h⟩:=bind_ok h
 obtain ⟨_,r4,h4,h⟩:=bind_ok h
 obtain ⟨_,r5,h5,h⟩:=bind_ok h
 obtain ⟨_,r6,h6,h⟩:=bind_ok h
 obtain ⟨_,r7,h7,h⟩:=bind_ok h
 obtain ⟨_,r8,h8,h⟩:=bind_ok h
 obtain ⟨_,r9,h9,h⟩:=bind_ok h
 obtain ⟨_,r10,h10,h⟩:=bind_ok h
 obtain ⟨_,r11,h11,h⟩:=bind_ok h
 injection h with _ h;subst h
 exact (z0z h11).1.trans ((z0z h10).1.trans ((z8u znw _ _ _ _ h9).trans ((z1o h8).1.trans ((z0z h7).1.trans ((z1o h6).1.trans ((z0z h5).1.trans ((z1o h4).1.trans ((z0z h3).1.trans ((zcz h2).1.trans ((List.tail_suffix r1).trans (z1o h1).1))))))))))
theorem z081 {ts:List Tok}:znu L ts≠.out:=fun h=>by
 unfold znu at h
 rcases z1c h with h|⟨_,_,_,h⟩
 ·exact za0 h
 split at h
 ·cases h
 rcases z1c h with h|⟨_,_,_,h⟩
 ·exact zwd h
 rcases z1c h with h|⟨_,_,_,h⟩
 ·exact z6l h
 rcases z1c h with h|⟨_,_,_,h⟩
 ·exact za0 h
 rcases z1c h with h|⟨_,_,_,h⟩
 ·exact z6l h
 rcases z1c h with h|⟨_,_,_,h⟩
 ·exact za0 h
 rcases z1c h with h|⟨_,_,_,h⟩
 ·exact z6l h
 rcases z1c h with h|⟨_,_,_,h⟩
 ·exact za0 h
 rcases z1c h with h|⟨_,_,_,h⟩
 ·exact zlm znw _ _ (Nat.le_refl _) h
 rcases z1c h with h|⟨_,_,_,h⟩
 ·exact z6l h
 rcases z1c h with h|⟨_,_,_,h⟩
 ·exact z6l h
 ·cases h
theorem z03y {ts r:List Tok} {v:z6c} (h:zqg L ts=.ok v r):r <:+ ts∧r.length<ts.length:=by
 unfold zqg at h
 obtain ⟨_,r1,h1,h⟩:=bind_ok h
 obtain ⟨_,r2,h2,h⟩:=bind_ok h
 obtain ⟨_,r3,h3,h⟩:=bind_ok h
 obtain ⟨_,r4,h4,h⟩:=bind_ok h
 injection h with _ h;subst h
 exact zum ((z0z h4).1.trans ((zcz h3).1.trans (z1o h2).1)) (zcz h1).1 (zcz h1).2
theorem z082 {ts:List Tok}:zqg L ts≠.out:=fun h=>by
 unfold zqg at h
 rcases z1c h with h|⟨_,_,_,h⟩
 ·exact zwd h
 rcases z1c h with h|⟨_,_,_,h⟩
 ·exact za0 h
 rcases z1c h with h|⟨_,_,_,h⟩
 ·exact zwd h
 rcases z1c h with h|⟨_,_,_,h⟩
 ·exact z6l h
 ·cases h
theorem zjv:More (zor L) where
 suf:=fun ts v r h=>by
  unfold zor at h;split at h
  ·cases h
  ·injection h with h;exact z03y h
 ne:=fun ts h=>by
  unfold zor at h;split at h
  ·cases h
  ·injection h with h;exact z082 h
theorem z03z {ts r:List Tok} {v:z4t} (h:znv L ts=.ok v r):r <:+ ts:=by
 unfold znv at h
 obtain ⟨_,r1,h1,h⟩:=bind_ok h
 obtain ⟨_,r2,h2,h⟩:=bind_ok h
 obtain ⟨_,r3,h3,h⟩:=bind_ok h
 obtain ⟨_,r4,h4,h⟩:=bind_ok h
 injection h with _ h;subst h
 exact (z0z h4).1.trans ((z8u zjv _ _ _ _ h3).trans ((z0z h2).1.trans (z1o h1).1))
theorem z083 {ts:List Tok}:znv L ts≠.out:=fun h=>by
 unfold znv at h
 rcases z1c h with h|⟨_,_,_,h⟩
 ·exact za0 h
 rcases z1c h with h|⟨_,_,_,h⟩
 ·exact z6l h
 rcases z1c h with h|⟨_,_,_,h⟩
 ·exact zlm zjv _ _ (Nat.le_refl _) h
 rcases z1c h with h|⟨_,_,_,h⟩
 ·exact z6l h
 ·cases h
theorem zko:More (mVar L) where
 suf:=fun ts v r h=>by
  unfold mVar at h;split at h
  ·rename_i hs;injection h with h
   obtain ⟨_,r1,h1,h⟩:=bind_ok h
   obtain ⟨_,r2,h2,h⟩:=bind_ok h
   injection h with _ h;subst h
   exact zay hs ((z0z h2).1.trans (z1o h1).1)
  ·cases h
 ne:=fun ts h=>by
  unfold mVar at h;split at h
  ·injection h with h
   rcases z1c h with h|⟨_,_,_,h⟩
   ·exact za0 h
   rcases z1c h with h|⟨_,_,_,h⟩
   ·exact z6l h
   ·cases h
  ·cases h
theorem zqh {ts r:List Tok} {v:List z03} (h:zm5 L ts=.ok v r):r <:+ ts:=(sufS L _).stmts _ _ _ _ h
theorem z00q {ts:List Tok}:zm5 L ts≠.out:=(fuS L _).stmts _ _ (Nat.le_refl _)
theorem z040 {ts r:List Tok} {v:z31} (h:zli L ts=.ok v r):r <:+ ts:=by
 unfold zli at h
 obtain ⟨_,r1,h1,h⟩:=bind_ok h
 obtain ⟨_,r2,h2,h⟩:=bind_ok h
 obtain ⟨_,r3,h3,h⟩:=bind_ok h
 obtain ⟨_,r4,h4,h⟩:=bind_ok h
 obtain ⟨_,r5,h5,h⟩:=bind_ok h
 injection h with _ h;subst h
 exact (z0z h5).1.trans ((zqh h4).trans ((z8u zko _ _ _ _ h3).trans ((z0z h2).1.trans (z1o h1).1)))
theorem z084 {ts:List Tok}:zli L ts≠.out:=fun h=>by
 unfold zli at h
 rcases z1c h with h|⟨_,_,_,h⟩
 ·exact za0 h
 rcases z1c h with h|⟨_,_,_,h⟩
 ·exact z6l h
 rcases z1c h with h|⟨_,_,_,h⟩
 ·exact zlm zko _ _ (Nat.le_refl _) h
 rcases z1c h with h|⟨_,_,_,h⟩
 ·exact z00q h
 rcases z1c h with h|⟨_,_,_,h⟩
 ·exact z6l h
 ·cases h
theorem zhs:More (zlj L) where
 suf:=fun ts v r h=>by
  unfold zlj at h;split at h
  ·rename_i hs;injection h with h;exact zay hs (z03x h)
  ·cases h
 ne:=fun ts h=>by
  unfold zlj at h;split at h
  ·injection h with h;exact z081 h
  ·cases h
theorem zht:More (zlk L) where
 suf:=fun ts v r h=>by
  unfold zlk at h;split at h
  ·rename_i hs;injection h with h;exact zay hs (z03z h)
  ·cases h
 ne:=fun ts h=>by
  unfold zlk at h;split at h
  ·injection h with h;exact z083 h
  ·cases h
theorem znq:More (zio L) where
 suf:=fun ts v r h=>by
  unfold zio at h;split at h
  ·rename_i hs;injection h with h;exact zay hs (z040 h)
  ·cases h
 ne:=fun ts h=>by
  unfold zio at h;split at h
  ·injection h with h;exact z084 h
  ·cases h
theorem zwg {ts:List Tok}:sSys L ts≠.out:=fun h=>by
 unfold sSys at h
 rcases z1c h with h|⟨_,_,_,h⟩
 ·exact zlm zhs _ _ (Nat.le_refl _) h
 rcases z1c h with h|⟨_,_,_,h⟩
 ·exact zlm zht _ _ (Nat.le_refl _) h
 rcases z1c h with h|⟨_,_,_,h⟩
 ·exact zlm znq _ _ (Nat.le_refl _) h
 ·cases h
end
section
variable {a:z00} (h:a.f_e≠0)
include h
theorem z041:z1u a [(ByteArray.mk #[98,108,111,99,107]),(ByteArray.mk #[100,114,111,112]),(ByteArray.mk #[108,111,115,115,121])]=some (a,-1):=z011 h _ (by decide)
theorem z042:z79 a=some (a,[]):=Sn.unf fun n=>zun h n
theorem z05n (l:List ByteArray):z2c (tp7 a l)=some (.inr (.inr (tp7 a l))):=by
 unfold z2c
 show (z0j a _>>=_)=_
 rw [zhu h];rfl
theorem z05o (l:List z4j):z3m (tp7 a l)=some (.inr (.inr (tp7 a l))):=by
 unfold z3m
 rw [if_neg (by simpa [tp7] using h)];rfl
theorem z05p (l:List ByteArray):z3n (tp7 a l)=some (.inr (.inr (tp7 a l))):=by
 unfold z3n
 show (z0j a _>>=_)=_
 rw [zhu h];rfl
theorem z0b8 (l:List z39):z6v (tp7 a l)=some (.inr (.inr (tp7 a l))):=by
 unfold z6v
 show (z0j a _>>=_)=_
 rw [zhu h];rfl
theorem z05q (l:List z3g):z6w (tp7 a l)=some (.inr (.inr (tp7 a l))):=by
 unfold z6w
 show (z0j a _>>=_)=_
 rw [zhu h];rfl
theorem z016 (l:List z3h):z69 (tp7 a l)=some (.inr (.inr (tp7 a l))):=by
 unfold z69
 show (z0j a _>>=_)=_
 rw [zhu h];rfl
theorem z0b9 (l:List ByteArray):LF z2c a l=some (a,l):=zlz (z05n h l)
theorem z0ba (l:List z4j):LF z3m a l=some (a,l):=zlz (z05o h l)
theorem z0bb (l:List ByteArray):LF z3n a l=some (a,l):=zlz (z05p h l)
end
theorem eQ {a:z00} (h:a.f_e≠0):(∀ w,z08 a w=some a)∧z0h a=some (a,ByteArray.mk #[])∧z28 a=some (a,0)∧(∀ c,z2f a c=some a)∧(∀ l,LF z2c a l=some (a,l))∧(∀ l,LF z3m a l=some (a,l))∧(∀ l,LF z3n a l=some (a,l))∧z79 a=some (a,[]):=⟨zew h,zpc h,z0b0 h,zpb h,z0b9 h,z0ba h,z0bb h,z042 h⟩
theorem z2m (x:ByteArray):app 16 [] [x]=some [x]:=rfl
theorem za1 (a:z00):z00.mk a.f_l a.f_end a.f_e a.f_at a.f_deep a.f_in=a:=rfl
instance:Inhabited z4j:=⟨⟨0,nB,0⟩⟩
instance:Inhabited z39:=⟨⟨nB,0,0,nB,nB,[]⟩⟩
instance:Inhabited z3g:=⟨⟨nB,[]⟩⟩
instance:Inhabited z3h:=⟨⟨nB,[],[]⟩⟩
theorem z085 (a:z00):z6h a=z0h a>>=fun v1=>z1u v1.1 [(ByteArray.mk #[98,108,111,99,107]),(ByteArray.mk #[100,114,111,112]),(ByteArray.mk #[108,111,115,115,121])]>>=fun v2 =>
  if (decide (v2.2<0)) then (z2f v2.1 5>>=fun v3=>some (v3,(z39.mk v1.2 v2.2 0 (ByteArray.mk #[]) (ByteArray.mk #[]) [])))
  else (z28 v2.1>>=fun v4=>z08 v4.1 (ByteArray.mk #[102,114,111,109])>>=fun v5=>z0h v5>>=fun v6=>z08 v6.1 (ByteArray.mk #[116,111])>>=fun v7=>z0h v7>>=fun v8=>z08 v8.1 (ByteArray.mk #[123])>>=fun v9 =>
   z0h v9>>=fun v10=>app 16 [] [v10.2]>>=fun v11=>LF z2c v10.1 v11>>=fun w=>z08 w.1 (ByteArray.mk #[125])>>=fun v15=>z08 v15 (ByteArray.mk #[59])>>=fun v16=>some (v16,(z39.mk v1.2 v2.2 v4.2 v6.2 v8.2 w.2))):=by
 simp only [← zwf];rfl
theorem z086 (a:z00):z7t a=z0h a>>=fun v1=>z08 v1.1 (ByteArray.mk #[123])>>=fun v2=>LF z3m v2 []>>=fun w=>z08 w.1 (ByteArray.mk #[125])>>=fun v9=>some (v9,(z3g.mk v1.2 w.2)):=by
 simp only [← zwf];rfl
theorem z087 (a:z00):z7v a=z0h a>>=fun v1=>z08 v1.1 (ByteArray.mk #[123])>>=fun v2=>LF z3n v2 []>>=fun w=>z79 w.1>>=fun v7=>z08 v7.1 (ByteArray.mk #[125])>>=fun v8=>some (v8,(z3h.mk v1.2 w.2 v7.2)):=by
 simp only [← zwf];rfl
abbrev mkCh:z3l→z00→z00 × z39:=fun v a=>(a,cCh v)
abbrev mkMo:z6c→z00→z00 × z4j:=fun v a=>(a,cMo v)
abbrev mkRu:z4t→z00→z00 × z3g:=fun v a=>(a,cRu v)
abbrev mkPr:z31→z00→z00 × z3h:=fun v a=>(a,cPr v)
section
variable {L i:Int}
theorem z0bc {ts:List Tok} {t:ByteArray} (hl:ts.length+1≤2000):TP L 0 i Prod.fst (fun v a=>(a,[t]++v.map id)) 0 (fun _=>LF z2c (PS L ts 0 i) [t]) (z9d (mTag L) (ts.length+1) ts):=by
 refine zpd (cv:=id) znw (fun ts l ht hm=>?_) (fun ts o ht hm=>?_) (fun a l h=>z05n h l) _ ts [t] (by omega) (by simp;omega)
 ·unfold mTag at hm
  cases hs:z27 (ByteArray.mk #[44]) ts with
  | true=>rw [hs] at hm;cases hm
  | false =>
   unfold z2c
   show (z0j (PS L ts 0 i) _>>=_)=_
   rw [zai ht,hs];rfl
 ·unfold mTag at hm
  cases hs:z27 (ByteArray.mk #[44]) ts with
  | false=>rw [hs] at hm;cases hm
  | true =>
   rw [hs] at hm;injection hm with hm;subst hm
   have l0:ts.tail.length≤2000:=by have:=z4a hs;omega
   refine ⟨z0h (PS L ts.tail 0 i),zdj l0,fun l hll=>?_⟩
   unfold z2c
   show (z0j (PS L ts 0 i) _>>=_)=_
   rw [zai ht,hs]
   simp only [Option.bind_eq_bind,Option.bind_some,if_true]
   congr 1;funext v
   show (app 16 l [v.2]).bind _=_
   rw [z6o (by simp;omega)];rfl
theorem z0bd {ts:List Tok} {H:Nat} (hl:ts.length≤2000):TP L 0 i Prod.fst mkCh H (fun _=>z6h (PS L ts 0 i)) (znu L ts):=by
 refine TP.eq (y:=fun _=>_) ?_ (fun _=>z085 _)
 unfold znu
 refine TP.bind (π':=Prod.fst) (mk':=mkCh) (zdj hl) (fun m r1 h1=>?_) (fun r c p hc he=>z4i (by simp only [z041 (a:=r.1) (z57 hc he),zpb (a:=r.1) (z57 hc he),Option.bind_eq_bind,Option.bind_some,neg1,if_true];rfl) ⟨he.1,he.2⟩)
 have l1:=z4q (z1o h1).1 hl
 have hw:=zqd (L:=L) (d:=0) (i:=i) l1 zoq (by decide)
 cases hs:z3p zoq r1 with
 | none =>
  rw [hs] at hw
  refine TP.err (r:=((⟨r1.map tokT,L,5,sAt L r1,0,i⟩:z00),⟨m,-1,0,nB,nB,[]⟩)) (fun n=>?_) (by decide) ⟨rfl,rfl⟩
  show (z1u (PS L r1 0 i) zoq).bind _=_
  rw [hw]
  simp only [Option.bind_some,neg1,if_true,zns,Option.bind_eq_bind]
 | some j =>
  rw [hs] at hw
  have q1:decide (((j:Nat):Int)<0)=false:=by simp
  have l2:r1.tail.length≤2000:=by have:=(z7k hs).1;omega
  refine TP.eq (y:=fun _=>z28 (PS L r1.tail 0 i)>>=fun v4=>z08 v4.1 (ByteArray.mk #[102,114,111,109])>>=fun v5=>z0h v5>>=fun v6=>z08 v6.1 (ByteArray.mk #[116,111])>>=fun v7=>z0h v7>>=fun v8=>z08 v8.1 (ByteArray.mk #[123])>>=fun v9 =>
   z0h v9>>=fun v10=>app 16 [] [v10.2]>>=fun v11=>LF z2c v10.1 v11>>=fun w=>z08 w.1 (ByteArray.mk #[125])>>=fun v15=>z08 v15 (ByteArray.mk #[59])>>=fun v16=>some (v16,(z39.mk m (j:Int) v4.2 v6.2 v8.2 w.2))) ?_ (fun n=>by
   show (z1u (PS L r1 0 i) zoq).bind _=_
   rw [hw]
   simp only [Option.bind_some,q1,Bool.false_eq_true,if_false])
  refine TP.bind (π':=Prod.fst) (mk':=mkCh) (z03n l2) (fun z r2 h2=>?_) (fun r c p hc he=>z4i (by simp only [eQ (a:=r.1) (z57 hc he),z2m,za1,Option.bind_eq_bind,Option.bind_some];rfl) ⟨he.1,he.2⟩)
  have l2:=z4q (zcz h2).1 l2
  refine TP.bind (π':=Prod.fst) (mk':=mkCh) (z8r l2 _) (fun _ r3 h3=>?_) (fun r c p hc he=>z4i (by simp only [eQ (a:=r) (z57 hc he),z2m,za1,Option.bind_eq_bind,Option.bind_some];rfl) ⟨he.1,he.2⟩)
  have l3:=z4q (z0z h3).1 l2
  refine TP.bind (π':=Prod.fst) (mk':=mkCh) (zdj l3) (fun a r4 h4=>?_) (fun r c p hc he=>z4i (by simp only [eQ (a:=r.1) (z57 hc he),z2m,za1,Option.bind_eq_bind,Option.bind_some];rfl) ⟨he.1,he.2⟩)
  have l4:=z4q (z1o h4).1 l3
  refine TP.bind (π':=Prod.fst) (mk':=mkCh) (z8r l4 _) (fun _ r5 h5=>?_) (fun r c p hc he=>z4i (by simp only [eQ (a:=r) (z57 hc he),z2m,za1,Option.bind_eq_bind,Option.bind_some];rfl) ⟨he.1,he.2⟩)
  have l5:=z4q (z0z h5).1 l4
  refine TP.bind (π':=Prod.fst) (mk':=mkCh) (zdj l5) (fun b r6 h6=>?_) (fun r c p hc he=>z4i (by simp only [eQ (a:=r.1) (z57 hc he),z2m,za1,Option.bind_eq_bind,Option.bind_some];rfl) ⟨he.1,he.2⟩)
  have l6:=z4q (z1o h6).1 l5
  refine TP.bind (π':=Prod.fst) (mk':=mkCh) (z8r l6 _) (fun _ r7 h7=>?_) (fun r c p hc he=>z4i (by simp only [eQ (a:=r) (z57 hc he),z2m,za1,Option.bind_eq_bind,Option.bind_some];rfl) ⟨he.1,he.2⟩)
  have l7:=z4q (z0z h7).1 l6
  refine TP.bind (π':=Prod.fst) (mk':=mkCh) (zdj l7) (fun t r8 h8=>?_) (fun r c p hc he=>z4i (by simp only [eQ (a:=r.1) (z57 hc he),z2m,za1,Option.bind_eq_bind,Option.bind_some];rfl) ⟨he.1,he.2⟩)
  have z8:=(z1o h8).2
  have l8:=z4q (z1o h8).1 l7
  refine TP.eq (y:=fun _=>LF z2c (PS L r8 0 i) [t]>>=fun w=>z08 w.1 (ByteArray.mk #[125])>>=fun v15=>z08 v15 (ByteArray.mk #[59])>>=fun v16=>some (v16,(z39.mk m (j:Int) z a b w.2))) ?_ (fun n=>rfl)
  refine TP.bind (π':=Prod.fst) (mk':=mkCh) ((z0bc (t:=t) (by omega)).mono (Nat.zero_le _)) (fun l r9 h9=>?_) (fun r c p hc he=>z4i (by simp only [eQ (a:=r.1) (z57 hc he),z2m,za1,Option.bind_eq_bind,Option.bind_some];rfl) ⟨he.1,he.2⟩)
  have l9:=z4q (z8u znw _ _ _ _ h9) l8
  refine TP.bind (π':=Prod.fst) (mk':=mkCh) (z8r l9 _) (fun _ r10 h10=>?_) (fun r c p hc he=>z4i (by simp only [eQ (a:=r) (z57 hc he),z2m,za1,Option.bind_eq_bind,Option.bind_some];rfl) ⟨he.1,he.2⟩)
  have l10:=z4q (z0z h10).1 l9
  refine TP.bind (π':=Prod.fst) (mk':=mkCh) (z8r l10 _) (fun _ r11 h11=>TP.pure (fun n=>?_)) (fun r c p hc he=>z4i (by simp only [eQ (a:=r) (z57 hc he),z2m,za1,Option.bind_eq_bind,Option.bind_some];rfl) ⟨he.1,he.2⟩)
  simp [mkCh,cCh]
theorem z0be {ts:List Tok} (hl:ts.length≤2000):TP L 0 i Prod.fst mkMo 0 (fun _=>z28 (PS L ts 0 i)>>=fun v4=>z0h v4.1>>=fun v5=>z28 v5.1>>=fun v6=>z08 v6.1 (ByteArray.mk #[59])>>=fun v7=>some (v7,z4j.mk v4.2 v5.2 v6.2)) (zqg L ts):=by
 unfold zqg
 refine TP.bind (π':=Prod.fst) (mk':=mkMo) (z03n hl) (fun a r1 h1=>?_) (fun r c p hc he=>z4i (by simp only [eQ (a:=r.1) (z57 hc he),z2m,za1,Option.bind_eq_bind,Option.bind_some];rfl) ⟨he.1,he.2⟩)
 have l1:=z4q (zcz h1).1 hl
 refine TP.bind (π':=Prod.fst) (mk':=mkMo) (zdj l1) (fun t r2 h2=>?_) (fun r c p hc he=>z4i (by simp only [eQ (a:=r.1) (z57 hc he),z2m,za1,Option.bind_eq_bind,Option.bind_some];rfl) ⟨he.1,he.2⟩)
 have l2:=z4q (z1o h2).1 l1
 refine TP.bind (π':=Prod.fst) (mk':=mkMo) (z03n l2) (fun b r3 h3=>?_) (fun r c p hc he=>z4i (by simp only [eQ (a:=r.1) (z57 hc he),z2m,za1,Option.bind_eq_bind,Option.bind_some];rfl) ⟨he.1,he.2⟩)
 have l3:=z4q (zcz h3).1 l2
 exact TP.bind (π':=Prod.fst) (mk':=mkMo) (z8r l3 _) (fun _ r4 h4=>TP.pure (fun n=>rfl)) (fun r c p hc he=>⟨(r,⟨a,t,b⟩),he,fun n=>.inl rfl⟩)
theorem z088 {ts:List Tok} (hl:ts.length≤2000):TP L 0 i Prod.fst (fun v a=>(a,[]++v.map cMo)) 0 (fun _=>LF z3m (PS L ts 0 i) []) (z9d (zor L) (ts.length+1) ts):=by
 refine zpd (cv:=cMo) zjv (fun ts l ht hm=>?_) (fun ts o ht hm=>?_) (fun a l h=>z05o h l) _ ts [] (by omega) (by simp;omega)
 ·unfold zor at hm
  cases hs:z27 (ByteArray.mk #[125]) ts with
  | false=>rw [hs] at hm;cases hm
  | true =>
   unfold z3m
   rw [if_pos (by rfl)]
   show ((z3e (PS L ts 0 i) (ByteArray.mk #[125])>>=fun v5=>some (!v5))>>=_)=_
   rw [ziz,hs];rfl
 ·unfold zor at hm
  cases hs:z27 (ByteArray.mk #[125]) ts with
  | true=>rw [hs] at hm;cases hm
  | false =>
   rw [hs] at hm;injection hm with hm;subst hm
   refine ⟨_,z0be ht,fun l hll=>?_⟩
   unfold z3m
   rw [if_pos (by rfl)]
   show ((z3e (PS L ts 0 i) (ByteArray.mk #[125])>>=fun v5=>some (!v5))>>=_)=_
   rw [ziz,hs]
   simp only [Option.bind_eq_bind,Option.bind_some,Bool.not_false,if_true,Option.bind_assoc]
   congr 1;funext v4
   congr 1;funext v5
   congr 1;funext v6
   congr 1;funext v7
   show (app 32 l [_]).bind _=_
   rw [z6o (by simp;omega)];rfl
theorem z0bf {ts:List Tok} {H:Nat} (hl:ts.length≤2000):TP L 0 i Prod.fst mkRu H (fun _=>z7t (PS L ts 0 i)) (znv L ts):=by
 refine TP.eq (y:=fun _=>_) ?_ (fun _=>z086 _)
 unfold znv
 refine TP.bind (π':=Prod.fst) (mk':=mkRu) (zdj hl) (fun m r1 h1=>?_) (fun r c p hc he=>z4i (by simp only [eQ (a:=r.1) (z57 hc he),z2m,za1,Option.bind_eq_bind,Option.bind_some];rfl) ⟨he.1,he.2⟩)
 have l1:=z4q (z1o h1).1 hl
 refine TP.bind (π':=Prod.fst) (mk':=mkRu) (z8r l1 _) (fun _ r2 h2=>?_) (fun r c p hc he=>z4i (by simp only [eQ (a:=r) (z57 hc he),z2m,za1,Option.bind_eq_bind,Option.bind_some];rfl) ⟨he.1,he.2⟩)
 have l2:=z4q (z0z h2).1 l1
 refine TP.bind (π':=Prod.fst) (mk':=mkRu) ((z088 l2).mono (Nat.zero_le _)) (fun l r3 h3=>?_) (fun r c p hc he=>z4i (by simp only [eQ (a:=r.1) (z57 hc he),z2m,za1,Option.bind_eq_bind,Option.bind_some];rfl) ⟨he.1,he.2⟩)
 have l3:=z4q (z8u zjv _ _ _ _ h3) l2
 refine TP.bind (π':=Prod.fst) (mk':=mkRu) (z8r l3 _) (fun _ r4 h4=>TP.pure (fun n=>rfl)) (fun r c p hc he=>z4i (by simp only [eQ (a:=r) (z57 hc he),z2m,za1,Option.bind_eq_bind,Option.bind_some];rfl) ⟨he.1,he.2⟩)
theorem z0bg {ts:List Tok} (hl:ts.length≤2000):TP L 0 i Prod.fst (fun v a=>(a,[]++v.map id)) 0 (fun _=>LF z3n (PS L ts 0 i) []) (z9d (mVar L) (ts.length+1) ts):=by
 refine zpd (cv:=id) zko (fun ts l ht hm=>?_) (fun ts o ht hm=>?_) (fun a l h=>z05p h l) _ ts [] (by omega) (by simp;omega)
 ·unfold mVar at hm
  cases hs:z27 (ByteArray.mk #[118,97,114]) ts with
  | true=>rw [hs] at hm;cases hm
  | false =>
   unfold z3n
   show (z0j (PS L ts 0 i) _>>=_)=_
   rw [zai ht,hs];rfl
 ·unfold mVar at hm
  cases hs:z27 (ByteArray.mk #[118,97,114]) ts with
  | false=>rw [hs] at hm;cases hm
  | true =>
   rw [hs] at hm;injection hm with hm;subst hm
   have l0:ts.tail.length≤2000:=by have:=z4a hs;omega
   refine ⟨z0h (PS L ts.tail 0 i)>>=fun v4=>z08 v4.1 (ByteArray.mk #[59])>>=fun v6=>some (v6,v4.2),?_,fun l hll=>?_⟩
   ·refine TP.bind (π':=Prod.fst) (mk':=fun v a=>(a,id v)) (zdj l0) (fun m r1 h1=>?_) (fun r c p hc he=>z4i (by simp only [eQ (a:=r.1) (z57 hc he),z2m,za1,Option.bind_eq_bind,Option.bind_some]) ⟨he.1,he.2⟩)
    exact TP.bind (π':=Prod.fst) (mk':=fun v a=>(a,id v)) (z8r (z4q (z1o h1).1 l0) _) (fun _ r2 h2=>TP.pure (fun n=>rfl)) (fun r c p hc he=>⟨(r,m),he,fun n=>.inl rfl⟩)
   ·unfold z3n
    show (z0j (PS L ts 0 i) _>>=_)=_
    rw [zai ht,hs]
    simp only [Option.bind_eq_bind,Option.bind_some,if_true,Option.bind_assoc]
    congr 1;funext v
    show (app 16 l [v.2]).bind _=_
    rw [z6o (by simp;omega)];rfl
theorem z0bh {ts:List Tok} {H:Nat} (hl:ts.length≤2000):TP L 0 0 Prod.fst mkL H (fun _=>z79 (PS L ts 0 0)) (zm5 L ts):=by
 have h:=(pt L (3*ts.length+2)).stmts 0 ts [] (by omega) hl (by simpa using hl)
 have h:=TP.up (F:=fun n=>z1b n (PS L ts 0 0)) rfl (fun n=>rfl) h
 have h:=h.unf.mono (Nat.zero_le H)
 intro hne
 obtain ⟨r,g,s⟩:=h hne
 refine ⟨r,?_,s⟩
 unfold zm5
 simpa using g
theorem z0bi {ts:List Tok} {H:Nat} (hl:ts.length≤2000):TP L 0 0 Prod.fst mkPr H (fun _=>z7v (PS L ts 0 0)) (zli L ts):=by
 refine TP.eq (y:=fun _=>_) ?_ (fun _=>z087 _)
 unfold zli
 refine TP.bind (π':=Prod.fst) (mk':=mkPr) (zdj hl) (fun m r1 h1=>?_) (fun r c p hc he=>z4i (by simp only [eQ (a:=r.1) (z57 hc he),z2m,za1,Option.bind_eq_bind,Option.bind_some];rfl) ⟨he.1,he.2⟩)
 have l1:=z4q (z1o h1).1 hl
 refine TP.bind (π':=Prod.fst) (mk':=mkPr) (z8r l1 _) (fun _ r2 h2=>?_) (fun r c p hc he=>z4i (by simp only [eQ (a:=r) (z57 hc he),z2m,za1,Option.bind_eq_bind,Option.bind_some];rfl) ⟨he.1,he.2⟩)
 have l2:=z4q (z0z h2).1 l1
 refine TP.bind (π':=Prod.fst) (mk':=mkPr) ((z0bg l2).mono (Nat.zero_le _)) (fun l r3 h3=>?_) (fun r c p hc he=>z4i (by simp only [eQ (a:=r.1) (z57 hc he),z2m,za1,Option.bind_eq_bind,Option.bind_some];rfl) ⟨he.1,he.2⟩)
 have l3:=z4q (z8u zko _ _ _ _ h3) l2
 refine TP.bind (π':=Prod.fst) (mk':=mkPr) (z0bh l3) (fun b r4 h4=>?_) (fun r c p hc he=>z4i (by simp only [eQ (a:=r.1) (z57 hc he),z2m,za1,Option.bind_eq_bind,Option.bind_some];rfl) ⟨he.1,he.2⟩)
 have l4:=z4q (zqh h4) l3
 refine TP.bind (π':=Prod.fst) (mk':=mkPr) (z8r l4 _) (fun _ r5 h5=>TP.pure (fun n=>?_)) (fun r c p hc he=>z4i (by simp only [eQ (a:=r) (z57 hc he),z2m,za1,Option.bind_eq_bind,Option.bind_some];rfl) ⟨he.1,he.2⟩)
 simp [mkPr,cPr]
theorem z089 {ts:List Tok} (hl:ts.length≤2000):TP L 0 0 Prod.fst (fun v a=>(a,[]++v.map cCh)) 0 (fun _=>LF z6v (PS L ts 0 0) []) (z9d (zlj L) (ts.length+1) ts):=by
 refine zpd (cv:=cCh) zhs (fun ts l ht hm=>?_) (fun ts o ht hm=>?_) (fun a l h=>z0b8 h l) _ ts [] (by omega) (by simp;omega)
 ·unfold zlj at hm
  cases hs:z27 (ByteArray.mk #[99,104,97,110]) ts with
  | true=>rw [hs] at hm;cases hm
  | false =>
   unfold z6v
   show (z0j (PS L ts 0 0) _>>=_)=_
   rw [zai ht,hs];rfl
 ·unfold zlj at hm
  cases hs:z27 (ByteArray.mk #[99,104,97,110]) ts with
  | false=>rw [hs] at hm;cases hm
  | true =>
   rw [hs] at hm;injection hm with hm;subst hm
   have l0:ts.tail.length≤2000:=by have:=z4a hs;omega
   refine ⟨z6h (PS L ts.tail 0 0),z0bd l0,fun l hll=>?_⟩
   unfold z6v
   show (z0j (PS L ts 0 0) _>>=_)=_
   rw [zai ht,hs]
   simp only [Option.bind_eq_bind,Option.bind_some,if_true]
   congr 1;funext v
   show (app 88 l [v.2]).bind _=_
   rw [z6o (by simp;omega)];rfl
theorem z08a {ts:List Tok} (hl:ts.length≤2000):TP L 0 0 Prod.fst (fun v a=>(a,[]++v.map cRu)) 0 (fun _=>LF z6w (PS L ts 0 0) []) (z9d (zlk L) (ts.length+1) ts):=by
 refine zpd (cv:=cRu) zht (fun ts l ht hm=>?_) (fun ts o ht hm=>?_) (fun a l h=>z05q h l) _ ts [] (by omega) (by simp;omega)
 ·unfold zlk at hm
  cases hs:z27 (ByteArray.mk #[114,117,108,101]) ts with
  | true=>rw [hs] at hm;cases hm
  | false =>
   unfold z6w
   show (z0j (PS L ts 0 0) _>>=_)=_
   rw [zai ht,hs];rfl
 ·unfold zlk at hm
  cases hs:z27 (ByteArray.mk #[114,117,108,101]) ts with
  | false=>rw [hs] at hm;cases hm
  | true =>
   rw [hs] at hm;injection hm with hm;subst hm
   have l0:ts.tail.length≤2000:=by have:=z4a hs;omega
   refine ⟨z7t (PS L ts.tail 0 0),z0bf l0,fun l hll=>?_⟩
   unfold z6w
   show (z0j (PS L ts 0 0) _>>=_)=_
   rw [zai ht,hs]
   simp only [Option.bind_eq_bind,Option.bind_some,if_true]
   congr 1;funext v
   show (app 40 l [v.2]).bind _=_
   rw [z6o (by simp;omega)];rfl
theorem z08b {ts:List Tok} (hl:ts.length≤2000):TP L 0 0 Prod.fst (fun v a=>(a,[]++v.map cPr)) 0 (fun _=>LF z69 (PS L ts 0 0) []) (z9d (zio L) (ts.length+1) ts):=by
 refine zpd (cv:=cPr) znq (fun ts l ht hm=>?_) (fun ts o ht hm=>?_) (fun a l h=>z016 h l) _ ts [] (by omega) (by simp;omega)
 ·unfold zio at hm
  cases hs:z27 (ByteArray.mk #[112,114,111,99]) ts with
  | true=>rw [hs] at hm;cases hm
  | false =>
   unfold z69
   show (z0j (PS L ts 0 0) _>>=_)=_
   rw [zai ht,hs];rfl
 ·unfold zio at hm
  cases hs:z27 (ByteArray.mk #[112,114,111,99]) ts with
  | false=>rw [hs] at hm;cases hm
  | true =>
   rw [hs] at hm;injection hm with hm;subst hm
   have l0:ts.tail.length≤2000:=by have:=z4a hs;omega
   refine ⟨z7v (PS L ts.tail 0 0),z0bi l0,fun l hll=>?_⟩
   unfold z69
   show (z0j (PS L ts 0 0) _>>=_)=_
   rw [zai ht,hs]
   simp only [Option.bind_eq_bind,Option.bind_some,if_true]
   congr 1;funext v
   show (app 64 l [v.2]).bind _=_
   rw [z6o (by simp;omega)];rfl
end
noncomputable def pAll (a:z00):Option (z00 × z23):=LF z6v a []>>=fun c=>LF z6w c.1 []>>=fun r=>LF z69 r.1 []>>=fun p=>some (p.1,⟨c.2,r.2,p.2⟩)
noncomputable def pFin (v:z00 × z23):Option (z23 × Int × Int) :=
 if (decide ((v.1.f_l.length:Int) > 0)) then (z2f v.1 5>>=fun w=>if (w.f_e != 0) then some ((z23.mk [] [] []),w.f_at,w.f_e) else some (v.2,0,0))
 else (if (v.1.f_e != 0) then some ((z23.mk [] [] []),v.1.f_at,v.1.f_e) else some (v.2,0,0))
theorem zwh (s:ByteArray):z9u s=zjf s>>=fun v1=>if (v1.2.2 != 0) then some ((z23.mk [] [] []),v1.2.1,v1.2.2) else pAll ⟨v1.1,(s.size:Int),0,0,0,0⟩>>=pFin:=by
 unfold pAll
 simp only [Option.bind_eq_bind,Option.bind_assoc,Option.bind_some]
 simp only [← Option.bind_eq_bind,← zwf]
 rfl
section
variable {L:Int} {ts:List Tok}
theorem z0d5 (hl:ts.length≤2000):TP L 0 0 Prod.fst (fun v a=>(a,cSys v)) 0 (fun _=>pAll (PS L ts 0 0)) (sSys L ts):=by
 unfold sSys pAll
 refine TP.bind (π':=Prod.fst) (mk':=fun v a=>(a,cSys v)) (z089 hl) (fun c r1 h1=>?_) (fun r c p hc he=>⟨(r.1,⟨r.2,[],[]⟩),he,fun n=>.inl (by rw [zlz (z05q (z57 hc he) [])];show (LF z69 r.1 []>>=_)=_;rw [zlz (z016 (z57 hc he) [])];rfl)⟩)
 have l1:=z4q (z8u zhs _ _ _ _ h1) hl
 refine TP.bind (π':=Prod.fst) (mk':=fun v a=>(a,cSys v)) (z08a l1) (fun d r2 h2=>?_) (fun r cc p hc he=>⟨(r.1,⟨c.map cCh,r.2,[]⟩),he,fun n=>.inl (by rw [zlz (z016 (z57 hc he) [])];rfl)⟩)
 have l2:=z4q (z8u zht _ _ _ _ h2) l1
 exact TP.bind (π':=Prod.fst) (mk':=fun v a=>(a,cSys v)) (z08b l2) (fun d r2 h2=>TP.pure (fun n=>rfl)) (fun r cc p hc he=>⟨(r.1,⟨c.map cCh,d.map cRu,r.2⟩),he,fun n=>.inl rfl⟩)
theorem z08c {s:ByteArray} {p:Int} (hs:zjf s=some (ts.map tokT,p,0)) (hl:ts.length≤2000):z9u s=some (match sAll (s.size:Int) ts with
  | .ok v _=>(cSys v,0,0)
  | .er c p=>(⟨[],[],[]⟩,p,c)
  | .out=>(⟨[],[],[]⟩,0,0)):=by
 rw [zwh,hs]
 show (pAll (PS (s.size:Int) ts 0 0)>>=pFin)=_
 obtain ⟨r,g,q⟩:=z0d5 (L:=(s.size:Int)) hl zwg
 have q:pAll (PS (s.size:Int) ts 0 0)=some r:=by
  rcases q 0 with q|⟨_,q⟩
  ·exact q
  ·omega
 rw [q]
 show pFin r=_
 unfold sAll
 cases hv:sSys (s.size:Int) ts with
 | ok v rest =>
  rw [hv] at g
  have g:r=(PS (s.size:Int) rest 0 0,cSys v):=g
  subst g
  cases rest with
  | nil=>rfl
  | cons t rest =>
   unfold pFin
   rw [if_pos (by simp [PS])]
   show (z2f (PS _ _ 0 0) 5>>=_)=_
   rw [zns];rfl
 | er c p =>
  rw [hv] at g
  obtain ⟨hc,he⟩:=g
  have h:r.1.f_e≠0:=z57 hc he
  have h1:(r.1.f_e != 0)=true:=e1 h
  unfold pFin
  rw [zpb h]
  simp only [Option.bind_eq_bind,Option.bind_some,h1,if_true,ite_self]
  rw [he.1,he.2];rfl
 | out=>exact absurd hv zwg
end
def RS (L:Int) (full ts:List Tok):z01:=⟨full.map tokR,((full.length - ts.length:Nat):Int),L,0,0⟩
def ER (a:z01) (c p:Int):Prop:=a.E=c∧a.At=p
def Sf (full ts:List Tok):Prop:=ts <:+ full∧full.length≤2000
section
variable {ρ ρ' β γ:Type} {L:Int} {full:List Tok} {π:ρ→z01} {mk:β→z01→ρ} {π':ρ'→z01} {mk':γ→z01→ρ'} {H:Nat}
def GR (L:Int) (full:List Tok) (π:ρ→z01) (mk:β→z01→ρ):Rs β→ρ→Prop
 | .ok v ts,r=>r=mk v (RS L full ts)
 | .er c p,r=>c≠0∧ER (π r) c p
 | .out,_=>False
def TR (L:Int) (full:List Tok) (π:ρ→z01) (mk:β→z01→ρ) (H:Nat) (x:Nat→Option ρ) (o:Rs β):Prop:=o≠.out→∃ r,GR L full π mk o r∧∀ n,Sn n H (x n) r
theorem TR.bind {x:Nat→Option ρ} {o:Rs β} {k:Nat→ρ→Option ρ'} {k':β→List Tok→Rs γ} (h:TR L full π mk H x o) (hok:∀ v ts,o=.ok v ts→TR L full π' mk' H (fun n=>k n (mk v (RS L full ts))) (k' v ts))
  (her:∀ r c p,c≠0→ER (π r) c p→∃ r',ER (π' r') c p∧∀ n,Sn n H (k n r) r'):TR L full π' mk' H (fun n=>x n>>=k n) (o.bind k'):=by
 intro hne
 cases o with
 | ok v ts =>
  obtain ⟨r,hr,hs⟩:=h (by simp)
  have hr:r=mk v (RS L full ts):=hr
  subst hr
  obtain ⟨r',g',s'⟩:=hok v ts rfl hne
  exact ⟨r',g',fun n=>Sn.bind (f:=k n) (hs n) (s' n)⟩
 | er c p =>
  obtain ⟨r,⟨hc,he⟩,hs⟩:=h (by simp)
  obtain ⟨r',he',s'⟩:=her r c p hc he
  exact ⟨r',⟨hc,he'⟩,fun n=>Sn.bind (f:=k n) (hs n) (s' n)⟩
 | out=>exact absurd rfl hne
theorem TR.pure {x:Nat→Option ρ} {v:β} {ts:List Tok} (e:∀ n,x n=some (mk v (RS L full ts))):TR L full π mk H x (.ok v ts):=fun _=>⟨_,rfl,fun n=>.inl (e n)⟩
theorem TR.err {x:Nat→Option ρ} {r:ρ} {c p:Int} (e:∀ n,x n=some r) (hc:c≠0) (hp:ER (π r) c p):TR L full π mk H x (.er c p):=fun _=>⟨r,⟨hc,hp⟩,fun n=>.inl (e n)⟩
theorem TR.up {F x:Nat→Option ρ} {o:Rs β} (h0:F 0=none) (h1:∀ n,F (n+1)=x n) (h:TR L full π mk H x o):TR L full π mk (H+1) F o:=by
 intro hne
 obtain ⟨r,g,s⟩:=h hne
 refine ⟨r,g,fun n=>?_⟩
 cases n with
 | zero=>exact .inr ⟨h0,by omega⟩
 | succ n=>rw [h1];exact (s n).up
theorem TR.mono {x:Nat→Option ρ} {o:Rs β} {H':Nat} (h:TR L full π mk H x o) (hh:H≤H'):TR L full π mk H' x o:=fun hne=>by
 obtain ⟨r,g,s⟩:=h hne
 exact ⟨r,g,fun n=>(s n).mono hh⟩
theorem TR.eq {x y:Nat→Option ρ} {o:Rs β} (h:TR L full π mk H y o) (e:∀ n,x n=y n):TR L full π mk H x o:=by
 rw [show x=y from funext e];exact h
theorem TR.unf {x:Nat→Option ρ} {o:Rs β} (h:TR L full π mk H x o):TR L full π mk 0 (fun _=>unf x) o:=fun hne=>by
 obtain ⟨r,g,s⟩:=h hne
 exact ⟨r,g,fun n=>.inl (Sn.unf s)⟩
theorem zj1 {x:Nat→Option ρ}:TR L full π mk H x (.out:Rs β):=fun h=>absurd rfl h
end
theorem TR.map {ρ β γ:Type} {L:Int} {full:List Tok} {π:ρ→z01} {mk:β→z01→ρ} {mk':γ→z01→ρ} {H:Nat} {x:Nat→Option ρ} {o:Rs β} {g:β→γ}
  (h:TR L full π mk H x o) (e:∀ v a,mk v a=mk' (g v) a):TR L full π mk' H x (o.bind fun v r=>.ok (g v) r):=by
 intro hne
 cases o with
 | ok v ts =>
  obtain ⟨r,hr,hs⟩:=h (by simp)
  exact ⟨r,Eq.trans hr (e v _),hs⟩
 | er c p=>exact h (by simp)
 | out=>exact absurd rfl hne
theorem z68 {a:z01} {c p:Int} (hc:c≠0) (h:ER a c p):a.E≠0:=by rw [h.1];exact hc
section
variable {full ts:List Tok}
theorem Sf.suf {r:List Tok} (h:Sf full ts) (q:r <:+ ts):Sf full r:=⟨q.trans h.1,h.2⟩
theorem Sf.tail (h:Sf full ts):Sf full ts.tail:=h.suf (List.tail_suffix ts)
theorem Sf.len (h:Sf full ts):ts.length≤2000:=Nat.le_trans h.1.length_le h.2
theorem Sf.hdx {t:Tok} {r:List Tok} (h:Sf full (t::r)):idx (full.map tokR) ((full.length - (t::r).length:Nat):Int)=some (tokR t):=by
 obtain ⟨⟨pre,h1⟩,h2⟩:=h
 subst h1
 have hk:(pre++t::r).length - (t::r).length=pre.length:=by simp
 have hlt:pre.length<((pre++t::r).map tokR).length:=by simp
 rw [hk,zgs hlt]
 simp
theorem Sf.idxI {L:Int} {t:Tok} {r:List Tok} (h:Sf full (t::r)):idx (full.map tokR) (RS L full (t::r)).I=some (tokR t):=h.hdx
theorem Sf.lt {t:Tok} {r:List Tok} (h:Sf full (t::r)):full.length - (t::r).length<full.length:=by
 have:=h.1.length_le
 simp only [List.length_cons] at this ⊢;omega
theorem Sf.nx {t:Tok} {r:List Tok} (h:Sf full (t::r)):IntKind.i64.wrap (((full.length - (t::r).length:Nat):Int)+1)=((full.length - r.length:Nat):Int):=by
 have:=h.1.length_le
 have:=h.2
 simp only [List.length_cons] at *
 rw [w64 (by omega) (by omega)];omega
theorem Sf.pv {t:Tok} {r:List Tok} (h:Sf full (t::r)):IntKind.i64.wrap (((full.length - r.length:Nat):Int) - 1)=((full.length - (t::r).length:Nat):Int):=by
 have:=h.1.length_le
 have:=h.2
 simp only [List.length_cons] at *
 rw [w64 (by omega) (by omega)];omega
end
section
variable {L:Int} {full ts:List Tok} (h:Sf full ts)
include h
theorem znx:decide ((RS L full ts).I<((RS L full ts).L.length:Int))=decide (ts≠[]):=by
 cases ts with
 | nil=>simp [RS]
 | cons t r =>
  have:=h.lt
  have h1:(RS L full (t::r)).I<((RS L full (t::r)).L.length:Int):=by show ((full.length - (t::r).length:Nat):Int)<((full.map tokR).length:Int);rw [List.length_map];omega
  simp [h1]
theorem is_R (w:ByteArray):z0l (RS L full ts) w=some (z27 w ts):=by
 unfold z0l
 rw [if_pos (by rfl),znx h]
 cases ts with
 | nil=>rfl
 | cons t r =>
  rw [if_pos (by simp)]
  show (idx (full.map tokR) _).bind _=_
  rw [h.idxI]
  have e:(tokR t).Kind=t.kind:=rfl
  have e2:(tokR t).Text.data.toList=t.text:=by simp [tokR]
  simp only [Option.bind_some,e,e2,z27,Go.ByteArray.toList_eq]
  cases (t.text==w.data.toList) <;> simp
theorem zhw (c:Int):z3o (RS L full ts) c=some ⟨full.map tokR,(RS L full ts).I,L,c,sAt L ts⟩:=by
 unfold z3o
 rw [if_neg (by simp [RS]),znx h]
 cases ts with
 | nil=>rfl
 | cons t r =>
  rw [if_pos (by simp)]
  show (idx (full.map tokR) _).bind _=_
  rw [h.idxI];rfl
theorem zkr {w:ByteArray} (hs:z27 w ts=true):z01.mk (RS L full ts).L (IntKind.i64.wrap ((RS L full ts).I+1)) (RS L full ts).End (RS L full ts).E (RS L full ts).At=RS L full ts.tail:=by
 cases ts with
 | nil=>cases hs
 | cons t r =>
  show z01.mk (full.map tokR) (IntKind.i64.wrap (((full.length - (t::r).length:Nat):Int)+1)) L 0 0=_
  rw [h.nx];rfl
theorem z05r (w:ByteArray):z0a (RS L full ts) w=some (if z27 w ts then RS L full ts.tail else ⟨full.map tokR,(RS L full ts).I,L,5,sAt L ts⟩):=by
 unfold z0a
 rw [is_R h]
 cases hs:z27 w ts with
 | false=>simp [zhw h]
 | true =>
  simp only [Option.bind_eq_bind,Option.bind_some,Bool.not_true,Bool.false_eq_true,if_false,if_true]
  rw [zkr h hs]
abbrev mkMr:Unit→z01→z01:=fun _ a=>a
abbrev mkVr {α:Type}:α→z01→z01 × α:=fun v a=>(a,v)
theorem z6m {H:Nat} (w:ByteArray):TR L full id mkMr H (fun _=>z0a (RS L full ts) w) (z8z L w ts):=by
 unfold z8z
 cases hs:z27 w ts with
 | true=>exact TR.pure (fun n=>by rw [z05r h,hs];rfl)
 | false=>exact TR.err (r:=⟨full.map tokR,(RS L full ts).I,L,5,sAt L ts⟩) (fun n=>by rw [z05r h,hs];rfl) (by decide) ⟨rfl,rfl⟩
theorem za2 {H:Nat}:TR L full Prod.fst mkVr H (fun _=>z0k (RS L full ts)) (zcd L ts):=by
 unfold z0k
 rw [if_neg (by simp [RS])]
 cases ts with
 | nil =>
  rw [if_pos (by simp [RS])]
  refine TR.err (r:=(⟨full.map tokR,(RS L full []).I,L,5,L⟩,nB)) (fun n=>?_) (by decide) ⟨rfl,rfl⟩
  simp only [Option.bind_eq_bind,Option.bind_some,if_true,zhw h];rfl
 | cons t r =>
  have h1:decide ((RS L full (t::r)).I≥((RS L full (t::r)).L.length:Int))=false:=by
   have:=h.lt
   have h1:(RS L full (t::r)).I<((RS L full (t::r)).L.length:Int):=by show ((full.length - (t::r).length:Nat):Int)<((full.map tokR).length:Int);rw [List.length_map];omega
   simp;exact h1
  have hi:idx (RS L full (t::r)).L (RS L full (t::r)).I=some (tokR t):=h.hdx
  rw [h1,if_neg (by decide),hi]
  have e:(tokR t).Kind=t.kind:=rfl
  simp only [zcd,Option.bind_eq_bind,Option.bind_some,e]
  cases hk:(t.kind==1) with
  | true =>
   have hk':(t.kind != 1)=false:=by simp [bne,hk]
   refine TR.pure (fun n=>?_)
   rw [hk',if_neg (by decide)]
   have w1:IntKind.i64.wrap ((RS L full (t::r)).I+1)=((full.length - r.length:Nat):Int):=h.nx
   have w2:IntKind.i64.wrap (((full.length - r.length:Nat):Int) - 1)=(RS L full (t::r)).I:=h.pv
   rw [w1,w2,hi];rfl
  | false =>
   have hk':(t.kind != 1)=true:=by simp [bne,hk]
   refine TR.err (r:=(⟨full.map tokR,(RS L full (t::r)).I,L,5,(t.at_:Int)⟩,nB)) (fun n=>?_) (by decide) ⟨rfl,rfl⟩
   rw [hk',if_pos rfl,zhw h];rfl
theorem zwi {H:Nat}:TR L full Prod.fst mkVr H (fun _=>z2y (RS L full ts)) (sNum L ts):=by
 unfold z2y
 rw [if_neg (by simp [RS])]
 cases ts with
 | nil =>
  rw [if_pos (by simp [RS])]
  refine TR.err (r:=(⟨full.map tokR,(RS L full []).I,L,5,L⟩,0)) (fun n=>?_) (by decide) ⟨rfl,rfl⟩
  simp only [Option.bind_eq_bind,Option.bind_some,if_true,zhw h];rfl
 | cons t r =>
  have h1:decide ((RS L full (t::r)).I≥((RS L full (t::r)).L.length:Int))=false:=by
   have:=h.lt
   have h1:(RS L full (t::r)).I<((RS L full (t::r)).L.length:Int):=by show ((full.length - (t::r).length:Nat):Int)<((full.map tokR).length:Int);rw [List.length_map];omega
   simp;exact h1
  have hi:idx (RS L full (t::r)).L (RS L full (t::r)).I=some (tokR t):=h.hdx
  rw [h1,if_neg (by decide),hi]
  have e:(tokR t).Kind=t.kind:=rfl
  simp only [sNum,Option.bind_eq_bind,Option.bind_some,e]
  cases hk:(t.kind==2) with
  | true =>
   have hk':(t.kind != 2)=false:=by simp [bne,hk]
   refine TR.pure (fun n=>?_)
   rw [hk',if_neg (by decide)]
   have w1:IntKind.i64.wrap ((RS L full (t::r)).I+1)=((full.length - r.length:Nat):Int):=h.nx
   have w2:IntKind.i64.wrap (((full.length - r.length:Nat):Int) - 1)=(RS L full (t::r)).I:=h.pv
   rw [w1,w2,hi];rfl
  | false =>
   have hk':(t.kind != 2)=true:=by simp [bne,hk]
   refine TR.err (r:=(⟨full.map tokR,(RS L full (t::r)).I,L,5,(t.at_:Int)⟩,0)) (fun n=>?_) (by decide) ⟨rfl,rfl⟩
   rw [hk',if_pos rfl,zhw h];rfl
end
section
variable {a:z01} (h:a.E≠0)
include h
theorem ise (w:ByteArray):z0l a w=some false:=by unfold z0l;rw [if_neg (by simp [h])]
theorem zuo (c:Int):z3o a c=some a:=by unfold z3o;rw [if_pos (by simp [h])]
theorem zjw (w:ByteArray):z0a a w=some a:=by
 unfold z0a;rw [ise h]
 simp only [Option.bind_eq_bind,Option.bind_some,Bool.not_false,if_true,zuo h]
theorem z017:z0k a=some (a,nB):=by
 unfold z0k
 rw [if_pos (by simp [h])]
 simp only [Option.bind_eq_bind,Option.bind_some,if_true,zuo h]
theorem nume:z2y a=some (a,0):=by
 unfold z2y
 rw [if_pos (by simp [h])]
 simp only [Option.bind_eq_bind,Option.bind_some,if_true,zuo h]
end
def zhx (see:ByteArray→Bool):List ByteArray→Option Nat
 | []=>none
 | w::l=>if see w then some 0 else (zhx see l).map (· + 1)
theorem zex (ts:List Tok):∀ ws,z3p ws ts=zhx (fun w=>z27 w ts) ws
 | []=>rfl
 | w::l=>by simp only [z3p,zhx,zex ts l]
theorem zpe {see:ByteArray→Bool}:∀ {ws:List ByteArray},(∀ w∈ws,see w=false)→zhx see ws=none
 | [],_=>rfl
 | w::l,h=>by simp [zhx,h w (by simp),zpe (ws:=l) (fun w hw=>h w (by simp [hw]))]
theorem zmf {ts:List Tok} {w w':ByteArray} (h:z27 w ts=true) (h':z27 w' ts=true):w=w':=by
 cases ts with
 | nil=>cases h
 | cons t r =>
  simp only [z27,Bool.and_eq_true,beq_iff_eq] at h h'
  have:w.data.toList=w'.data.toList:=h.2.symm.trans h'.2
  cases w;cases w';simp at this;simp [this]
theorem z08d {X O Y:Type} {body:X→Option (Sum X (Sum O Y))} {see:ByteArray→Bool} {ws:List ByteArray} (st:Int→Int→X) (out:Int→Y) (val:Int→Int)
  (h1:∀ w w',see w=true→see w'=true→w=w') (hn:ws.Nodup)
  (hb:∀ (k:Nat) w best,k<ws.length→idx ws (k:Int)=some w→body (st k best)=some (.inl (st ((k+1:Nat):Int) (if see w then val k else best))))
  (he:∀ best,body (st (ws.length:Int) best)=some (.inr (.inr (out best)))):∀ (m:List ByteArray) (k:Nat) best,ws.drop k=m→k≤ws.length →
   iter body (st k best)=some (.inr (out (match zhx see m with|some j=>val ((k+j:Nat):Int)|none=>best))):=by
 intro m
 induction m with
 | nil =>
  intro k best hd hk
  have:k=ws.length:=by have:=List.drop_eq_nil_iff.1 hd;omega
  subst this
  exact z3i (he best)
 | cons w m ih =>
  intro k best hd hk
  have hlt:k<ws.length:=by
   refine Nat.lt_of_not_le fun h=>?_
   rw [List.drop_of_length_le h] at hd;cases hd
  have hnd:(w::m).Nodup:=by rw [← hd];exact hn.sublist (List.drop_sublist k ws)
  rw [List.drop_eq_getElem_cons hlt] at hd
  injection hd with e1 e2
  have hi:idx ws (k:Int)=some w:=by rw [zgs hlt,e1]
  rw [zce (hb k w best hlt hi),ih (k+1) _ e2 hlt]
  simp only [zhx]
  cases hs:see w with
  | true =>
   rw [zpe (ws:=m) (fun w' hw'=>by
    cases hs':see w' with
    | false=>rfl
    | true =>
     have:=h1 _ _ hs hs';subst this
     exact absurd hw' (List.nodup_cons.1 hnd).1)]
   simp
  | false =>
   cases zhx see m with
   | none=>simp
   | some j=>simp only [Bool.false_eq_true,if_false,Option.map_some,show k+1+j=k+(j+1) by omega]
theorem zmg {X O Y:Type} {body:X→Option (Sum X (Sum O Y))} {see:ByteArray→Bool} {ws:List ByteArray} (st:Int→Int→X) (out:Int→Y) (val:Int→Int)
  (h1:∀ w w',see w=true→see w'=true→w=w') (hn:ws.Nodup)
  (hb:∀ (k:Nat) w best,k<ws.length→idx ws (k:Int)=some w→body (st k best)=some (.inl (st ((k+1:Nat):Int) (if see w then val k else best))))
  (he:∀ best,body (st (ws.length:Int) best)=some (.inr (.inr (out best)))) (best:Int) :
   iter body (st 0 best)=some (.inr (out (match zhx see ws with|some j=>val (j:Int)|none=>best))):=by
 have:=z08d st out val h1 hn hb he ws 0 best rfl (by omega)
 simpa using this
theorem zg0 {ts:List Tok}:∀ {ws:List ByteArray} {j:Nat},z3p ws ts=some j→∃ w,z27 w ts=true
 | [],j,h=>by cases h
 | w::l,j,h=>by
  simp only [z3p] at h
  split at h
  ·exact ⟨w,by assumption⟩
  ·cases hq:z3p l ts with
   | none=>rw [hq] at h;cases h
   | some i=>exact zg0 hq
abbrev X9:=List z0r × Int × Int × Int × Int × Int × Int × ByteArray × List z04
def tpX (a:z01) (e:z04):X9:=(a.L,a.I,a.End,a.E,a.At,e.Kind,e.Num,e.Name,e.Kids)
def finX (j1:X9):Option (z01 × z04):=some ((z01.mk j1.1 j1.2.1 j1.2.2.1 j1.2.2.2.1 j1.2.2.2.2.1),(z04.mk j1.2.2.2.2.2.1 j1.2.2.2.2.2.2.1 j1.2.2.2.2.2.2.2.1 j1.2.2.2.2.2.2.2.2))
noncomputable def B6 (n:Nat) (d:Int):=z6s (z1w n) (z14 n) (z0q n) d mulS 6
noncomputable def B4 (n:Nat) (d:Int):=z6u (z1w n) (z14 n) (z0q n) d addS 4
noncomputable def C6 (n:Nat) (d:Int) (a:z01) (e:z04):Option (z01 × z04):=iter (B6 n d) (tpX a e)>>=Sum.elim (fun _=>none) finX
noncomputable def C4 (n:Nat) (d:Int) (a:z01) (e:z04):Option (z01 × z04):=iter (B4 n d) (tpX a e)>>=Sum.elim (fun _=>none) finX
def vR:z04:=⟨2,0,nB,[]⟩
section
variable {a:z01} (h:a.E≠0)
include h
theorem C6_e (n:Nat) (d:Int) (e:z04):C6 n d a e=some (a,e):=by
 obtain ⟨k,m,s,l⟩:=e
 unfold C6
 rw [z3i (r:=.inr (tpX a ⟨k,m,s,l⟩)) (by
  unfold B6 z6s
  rw [if_neg (by simpa [tpX] using h)])]
 rfl
theorem C4_e (n:Nat) (d:Int) (e:z04):C4 n d a e=some (a,e):=by
 obtain ⟨k,m,s,l⟩:=e
 unfold C4
 rw [z3i (r:=.inr (tpX a ⟨k,m,s,l⟩)) (by
  unfold B4 z6u
  rw [if_neg (by simpa [tpX] using h)])]
 rfl
theorem z08e (n:Nat) (d:Int):Sn n 1 (z0q n a d) (a,vR):=by
 cases n with
 | zero=>exact .inr ⟨rfl,by omega⟩
 | succ n =>
  refine .inl ?_
  have h0:(a.E==0)=false:=by simpa using h
  simp only [z0q,ise h,z017 h,h0,Option.bind_eq_bind,Option.bind_some,Bool.false_eq_true,if_false]
  rfl
theorem z08f (n:Nat) (d:Int):Sn n 2 (z14 n a d mulS 6) (a,vR):=by
 cases n with
 | zero=>exact .inr ⟨rfl,by omega⟩
 | succ n =>
  simp only [z14]
  exact (Sn.bind (f:=fun v1=>C6 n d v1.1 v1.2) (z08e h n d) (.inl (C6_e h n d vR))).up
theorem z08g (n:Nat) (d:Int):Sn n 3 (z14 n a d addS 4) (a,vR):=by
 cases n with
 | zero=>exact .inr ⟨rfl,by omega⟩
 | succ n =>
  simp only [z14]
  exact (Sn.bind (f:=fun v1=>C4 n d v1.1 v1.2) (z08f h n d) (.inl (C4_e h n d vR))).up
theorem z0bj (d:Int):z5e a d=some (a,vR):=Sn.unf (h:=4) fun n=>by
 cases n with
 | zero=>exact .inr ⟨rfl,by omega⟩
 | succ n =>
  simp only [z1w]
  exact (Sn.bind (f:=fun v1=>some (v1.1,v1.2)) (z08g h n d) (.inl rfl)).up
end
section
variable {L:Int} {full ts:List Tok} {d:Int}
theorem z0bk (hl:Sf full ts) (n:Nat) (e:z04):C6 n d (RS L full ts) e=match z3p mulS ts with
  | none=>some (RS L full ts,e)
  | some j=>z0q n (RS L full ts.tail) d>>=fun v=>C6 n d v.1 ⟨6+(j:Int),0,ByteArray.mk #[],[e,v.2]⟩:=by
 obtain ⟨ek,em,es,el⟩:=e
 have hw:iter (z6r (z1w n) (z14 n) (z0q n) mulS (tpX (RS L full ts) ⟨ek,em,es,el⟩)) ((-1),0)=some (.inr (match z3p mulS ts with|some j=>(j:Int)|none=>-1)):=by
  rw [zex]
  refine zmg (see:=fun w=>z27 w ts) (ws:=mulS) (fun k b=>(b,k)) id id (fun w w' h h'=>zmf h h') (by decide) (fun k w best hk hi=>?_) (fun best=>?_) (-1)
  ·unfold z6r
   rw [if_pos (by simpa using hk)]
   have hi':idx mulS (k:Int)=some w:=hi
   show ((idx mulS (k:Int)>>=fun v2=>z0l (RS L full ts) v2>>=fun v3=>if v3 then some (k:Int) else some best:Option Int)>>=_)=_
   rw [hi']
   have hk3:k<3:=Nat.lt_of_lt_of_le hk (by decide)
   have wk:IntKind.i64.wrap ((k:Int)+1)=((k+1:Nat):Int):=by rw [w64 (by omega) (by omega)];omega
   simp only [Option.bind_eq_bind,Option.bind_some,is_R hl,wk]
   cases z27 w ts <;> rfl
  ·unfold z6r
   rw [if_neg (by simp)];rfl
 have hb:B6 n d (tpX (RS L full ts) ⟨ek,em,es,el⟩)=match z3p mulS ts with
   | none=>some (.inr (.inr (tpX (RS L full ts) ⟨ek,em,es,el⟩)))
   | some j=>z0q n (RS L full ts.tail) d>>=fun v=>some (.inl (tpX v.1 ⟨6+(j:Int),0,ByteArray.mk #[],[⟨ek,em,es,el⟩,v.2]⟩)):=by
  unfold B6 z6s
  rw [if_pos (by rfl),hw]
  cases hs:z3p mulS ts with
  | none=>rfl
  | some j =>
   have hj:=(z7k hs).2
   have hj:j<3:=Nat.lt_of_lt_of_le hj (by decide)
   have q1:decide (((j:Nat):Int)<0)=false:=by simp
   have q2:IntKind.i64.wrap (6+(j:Int))=6+(j:Int):=w64 (by omega) (by omega)
   obtain ⟨w,hw'⟩:=zg0 hs
   simp only [Option.bind_eq_bind,Option.bind_some,Sum.elim_inr]
   rw [if_neg (by rw [q1];decide)]
   show (z0q n (z01.mk (RS L full ts).L (IntKind.i64.wrap ((RS L full ts).I+1)) (RS L full ts).End (RS L full ts).E (RS L full ts).At) d>>=fun v4=>some (Sum.inl (v4.1.L,v4.1.I,v4.1.End,v4.1.E,v4.1.At,IntKind.i64.wrap (6+(j:Int)),0,ByteArray.mk #[],[(⟨ek,em,es,el⟩:z04),v4.2])))=_
   rw [zkr hl hw',q2];rfl
 unfold C6
 rw [z8o,hb]
 cases hs:z3p mulS ts with
 | none=>rfl
 | some j =>
  simp only [Option.bind_eq_bind,Option.bind_assoc,Option.bind_some]
theorem z0bl (hl:Sf full ts) (n:Nat) (e:z04):C4 n d (RS L full ts) e=match z3p addS ts with
  | none=>some (RS L full ts,e)
  | some j=>z14 n (RS L full ts.tail) d mulS 6>>=fun v=>C4 n d v.1 ⟨4+(j:Int),0,ByteArray.mk #[],[e,v.2]⟩:=by
 obtain ⟨ek,em,es,el⟩:=e
 have hw:iter (z6t (z1w n) (z14 n) (z0q n) addS (tpX (RS L full ts) ⟨ek,em,es,el⟩)) ((-1),0)=some (.inr (match z3p addS ts with|some j=>(j:Int)|none=>-1)):=by
  rw [zex]
  refine zmg (see:=fun w=>z27 w ts) (ws:=addS) (fun k b=>(b,k)) id id (fun w w' h h'=>zmf h h') (by decide) (fun k w best hk hi=>?_) (fun best=>?_) (-1)
  ·unfold z6t
   rw [if_pos (by simpa using hk)]
   have hi':idx addS (k:Int)=some w:=hi
   show ((idx addS (k:Int)>>=fun v2=>z0l (RS L full ts) v2>>=fun v3=>if v3 then some (k:Int) else some best:Option Int)>>=_)=_
   rw [hi']
   have hk3:k<3:=Nat.lt_of_lt_of_le hk (by decide)
   have wk:IntKind.i64.wrap ((k:Int)+1)=((k+1:Nat):Int):=by rw [w64 (by omega) (by omega)];omega
   simp only [Option.bind_eq_bind,Option.bind_some,is_R hl,wk]
   cases z27 w ts <;> rfl
  ·unfold z6t
   rw [if_neg (by simp)];rfl
 have hb:B4 n d (tpX (RS L full ts) ⟨ek,em,es,el⟩)=match z3p addS ts with
   | none=>some (.inr (.inr (tpX (RS L full ts) ⟨ek,em,es,el⟩)))
   | some j=>z14 n (RS L full ts.tail) d mulS 6>>=fun v=>some (.inl (tpX v.1 ⟨4+(j:Int),0,ByteArray.mk #[],[⟨ek,em,es,el⟩,v.2]⟩)):=by
  unfold B4 z6u
  rw [if_pos (by rfl),hw]
  cases hs:z3p addS ts with
  | none=>rfl
  | some j =>
   have hj:=(z7k hs).2
   have hj:j<3:=Nat.lt_of_lt_of_le hj (by decide)
   have q1:decide (((j:Nat):Int)<0)=false:=by simp
   have q2:IntKind.i64.wrap (4+(j:Int))=4+(j:Int):=w64 (by omega) (by omega)
   obtain ⟨w,hw'⟩:=zg0 hs
   simp only [Option.bind_eq_bind,Option.bind_some,Sum.elim_inr]
   rw [if_neg (by rw [q1];decide)]
   show (z14 n (z01.mk (RS L full ts).L (IntKind.i64.wrap ((RS L full ts).I+1)) (RS L full ts).End (RS L full ts).E (RS L full ts).At) d mulS 6>>=fun v4=>some (Sum.inl (v4.1.L,v4.1.I,v4.1.End,v4.1.E,v4.1.At,IntKind.i64.wrap (4+(j:Int)),0,ByteArray.mk #[],[(⟨ek,em,es,el⟩:z04),v4.2])))=_
   rw [zkr hl hw',q2];rfl
 unfold C4
 rw [z8o,hb]
 cases hs:z3p addS ts with
 | none=>rfl
 | some j =>
  simp only [Option.bind_eq_bind,Option.bind_assoc,Option.bind_some]
end
abbrev mkEr:z04→z01→z01 × z04:=fun v a=>(a,v)
structure PR (L:Int) (full:List Tok) (f:Nat):Prop where
 fac:∀ (d:Nat) ts,d≤24→Sf full ts→TR L full Prod.fst mkEr (2*f) (fun n=>z0q n (RS L full ts) d) (z63 L f d ts)
 mul:∀ (d:Nat) e ts,d≤24→Sf full ts→TR L full Prod.fst mkEr (2*f) (fun n=>C6 n d (RS L full ts) e) (sMul L f d e ts)
 term:∀ (d:Nat) ts,d≤24→Sf full ts→TR L full Prod.fst mkEr (2*f) (fun n=>z14 n (RS L full ts) d mulS 6) (zdh L f d ts)
 add:∀ (d:Nat) e ts,d≤24→Sf full ts→TR L full Prod.fst mkEr (2*f) (fun n=>C4 n d (RS L full ts) e) (sAdd L f d e ts)
 exp:∀ (d:Nat) ts,d≤24→Sf full ts→TR L full Prod.fst mkEr (2*f) (fun n=>z1w n (RS L full ts) d) (zdi L f d ts)
theorem pr (L:Int) (full:List Tok):∀ f,PR L full f:=by
 intro f
 induction f with
 | zero=>exact ⟨fun d ts _ _=>by simp only [z63];exact zj1,fun d e ts _ _=>by simp only [sMul];exact zj1,fun d ts _ _=>by simp only [zdh];exact zj1,fun d e ts _ _=>by simp only [sAdd];exact zj1,fun d ts _ _=>by simp only [zdi];exact zj1⟩
 | succ f ih =>
  have sf:=suf L f
  refine ⟨fun d ts hd hl=>?_,fun d e ts hd hl=>?_,fun d ts hd hl=>?_,fun d e ts hd hl=>?_,fun d ts hd hl=>?_⟩
  ·-- a factor
   have wd:IntKind.i64.wrap ((d:Int)+1)=((d+1:Nat):Int):=by rw [w64 (by omega) (by omega)];omega
   simp only [z63]
   cases h1:z27 (ByteArray.mk #[45]) ts with
   | true =>
    simp only [if_true]
    refine TR.mono (H:=2*f+1) ?_ (by omega)
    by_cases h24:d=24
    ·rw [if_pos h24]
     have hd':decide ((d:Int)≥24)=true:=by simp;omega
     refine TR.up (H:=2*f) (x:=fun _=>some (⟨full.map tokR,(RS L full ts).I,L,6,sAt L ts⟩,zE)) rfl (fun n=>by
      simp only [z0q,is_R hl,h1,Option.bind_eq_bind,Option.bind_some,if_true,hd',zhw hl];rfl) ?_
     exact TR.err (fun n=>rfl) (by decide) ⟨rfl,rfl⟩
    ·rw [if_neg h24]
     have hd':decide ((d:Int)≥24)=false:=by simp;omega
     refine TR.up (H:=2*f) (x:=fun n=>z0q n (RS L full ts.tail) ((d+1:Nat):Int)>>=fun v5=>some (v5.1,(z04.mk 3 0 (ByteArray.mk #[]) [v5.2]))) rfl (fun n=>by
      simp only [z0q,is_R hl,h1,Option.bind_eq_bind,Option.bind_some,if_true,hd',Bool.false_eq_true,if_false,zkr hl h1,wd]) ?_
     exact TR.bind (ih.fac (d+1) ts.tail (by omega) hl.tail) (fun v r hv=>TR.pure (fun n=>rfl)) (fun r c p hc he=>⟨(r.1,⟨3,0,nB,[r.2]⟩),he,fun n=>.inl rfl⟩)
   | false =>
    simp only [Bool.false_eq_true,if_false]
    cases h2:z27 (ByteArray.mk #[40]) ts with
    | true =>
     simp only [if_true]
     refine TR.mono (H:=2*f+1) ?_ (by omega)
     by_cases h24:d=24
     ·rw [if_pos h24]
      have hd':decide ((d:Int)≥24)=true:=by simp;omega
      refine TR.up (H:=2*f) (x:=fun _=>some (⟨full.map tokR,(RS L full ts).I,L,6,sAt L ts⟩,zE)) rfl (fun n=>by
       simp only [z0q,is_R hl,h1,h2,Option.bind_eq_bind,Option.bind_some,if_true,Bool.false_eq_true,if_false,hd',zhw hl];rfl) ?_
      exact TR.err (fun n=>rfl) (by decide) ⟨rfl,rfl⟩
     ·rw [if_neg h24]
      have hd':decide ((d:Int)≥24)=false:=by simp;omega
      refine TR.up (H:=2*f) (x:=fun n=>z1w n (RS L full ts.tail) ((d+1:Nat):Int)>>=fun v6=>z0a v6.1 (ByteArray.mk #[41])>>=fun v7=>some (v7,v6.2)) rfl (fun n=>by
       simp only [z0q,is_R hl,h1,h2,Option.bind_eq_bind,Option.bind_some,if_true,hd',Bool.false_eq_true,if_false,zkr hl h2,wd]) ?_
      refine TR.bind (ih.exp (d+1) ts.tail (by omega) hl.tail) (fun v r hv=>?_) (fun r c p hc he=>⟨(r.1,r.2),he,fun n=>.inl (by rw [zjw (z68 hc he)];rfl)⟩)
      exact TR.bind (π':=Prod.fst) (mk':=mkEr) (z6m (hl.tail.suf (sf.exp _ _ _ _ hv)) _) (fun _ r' hv'=>TR.pure (fun n=>rfl)) (fun r c p hc he=>⟨(r,v),he,fun n=>.inl rfl⟩)
    | false =>
     simp only [Bool.false_eq_true,if_false]
     have hj:(if decide ((RS L full ts).I<((RS L full ts).L.length:Int))=true then idx (RS L full ts).L (RS L full ts).I>>=fun v8=>some (v8.Kind==2) else some false)=some (sOf 2 ts):=by
      rw [znx hl]
      cases ts with
      | nil=>rfl
      | cons t r =>
       rw [if_pos (by simp)]
       show (idx (full.map tokR) _).bind _=_
       rw [hl.idxI];rfl
     have hE:((RS L full ts).E==0)=true:=rfl
     cases h3:sOf 2 ts with
     | true =>
      rw [h3] at hj
      simp only [if_true]
      refine (TR.up (H:=2*f) (x:=fun n=>z2y (RS L full ts)>>=fun v9=>some (v9.1,(z04.mk 1 v9.2 (ByteArray.mk #[]) []))) rfl (fun n=>by
       simp only [Option.bind_eq_bind] at hj
       simp only [z0q,is_R hl,h1,h2,hE,hj,Option.bind_eq_bind,Option.bind_some,if_true,Bool.false_eq_true,if_false]) ?_).mono (by omega)
      exact TR.bind (zwi hl) (fun v r hv=>TR.pure (fun n=>rfl)) (fun r c p hc he=>⟨(r.1,⟨1,r.2,nB,[]⟩),he,fun n=>.inl rfl⟩)
     | false =>
      rw [h3] at hj
      simp only [Bool.false_eq_true,if_false]
      refine (TR.up (H:=2*f) (x:=fun n=>z0k (RS L full ts)>>=fun v10=>some (v10.1,(z04.mk 2 0 v10.2 []))) rfl (fun n=>by
       simp only [Option.bind_eq_bind] at hj
       simp only [z0q,is_R hl,h1,h2,hE,hj,Option.bind_eq_bind,Option.bind_some,if_true,Bool.false_eq_true,if_false]) ?_).mono (by omega)
      exact TR.bind (za2 hl) (fun v r hv=>TR.pure (fun n=>rfl)) (fun r c p hc he=>⟨(r.1,⟨2,0,r.2,[]⟩),he,fun n=>.inl rfl⟩)
  ·-- products
   simp only [sMul]
   cases hs:z3p mulS ts with
   | none=>exact TR.pure (fun n=>by rw [z0bk hl,hs])
   | some j =>
    refine (TR.eq (y:=fun n=>z0q n (RS L full ts.tail) d>>=fun v=>C6 n d v.1 ⟨6+(j:Int),0,ByteArray.mk #[],[e,v.2]⟩) ?_ (fun n=>by rw [z0bk hl,hs])).mono (show 2*f≤2*(f+1) by omega)
    exact TR.bind (ih.fac d ts.tail hd hl.tail) (fun v r hv=>ih.mul d _ r hd (hl.tail.suf (sf.fac _ _ _ _ hv))) (fun r c p hc he=>⟨(r.1,⟨6+(j:Int),0,nB,[e,r.2]⟩),he,fun n=>.inl (C6_e (z68 hc he) n d _)⟩)
  ·-- a term
   simp only [zdh]
   refine TR.mono (H:=2*f+1) ?_ (by omega)
   refine TR.up (H:=2*f) (x:=fun n=>z0q n (RS L full ts) d>>=fun v1=>C6 n d v1.1 v1.2) rfl (fun n=>rfl) ?_
   exact TR.bind (ih.fac d ts hd hl) (fun v r hv=>ih.mul d v r hd (hl.suf (sf.fac _ _ _ _ hv))) (fun r c p hc he=>⟨(r.1,r.2),he,fun n=>.inl (C6_e (z68 hc he) n d _)⟩)
  ·-- sums
   simp only [sAdd]
   cases hs:z3p addS ts with
   | none=>exact TR.pure (fun n=>by rw [z0bl hl,hs])
   | some j =>
    refine (TR.eq (y:=fun n=>z14 n (RS L full ts.tail) d mulS 6>>=fun v=>C4 n d v.1 ⟨4+(j:Int),0,ByteArray.mk #[],[e,v.2]⟩) ?_ (fun n=>by rw [z0bl hl,hs])).mono (show 2*f≤2*(f+1) by omega)
    exact TR.bind (ih.term d ts.tail hd hl.tail) (fun v r hv=>ih.add d _ r hd (hl.tail.suf (sf.term _ _ _ _ hv))) (fun r c p hc he=>⟨(r.1,⟨4+(j:Int),0,nB,[e,r.2]⟩),he,fun n=>.inl (C4_e (z68 hc he) n d _)⟩)
  ·-- an expression
   simp only [zdi]
   refine TR.up (H:=2*f+1) (x:=fun n=>z14 n (RS L full ts) d addS 4) rfl (fun n=>by simp only [z1w,Option.bind_eq_bind,zkq];rfl) ?_
   refine TR.up (H:=2*f) (x:=fun n=>z14 n (RS L full ts) d mulS 6>>=fun v1=>C4 n d v1.1 v1.2) rfl (fun n=>rfl) ?_
   exact TR.bind (ih.term d ts hd hl) (fun v r hv=>ih.add d v r hd (hl.suf (sf.term _ _ _ _ hv))) (fun r c p hc he=>⟨(r.1,r.2),he,fun n=>.inl (C4_e (z68 hc he) n d _)⟩)
theorem zqi {L:Int} {full ts:List Tok} {H:Nat} (hl:Sf full ts):TR L full Prod.fst mkEr H (fun _=>z5e (RS L full ts) 0) (eX L ts) :=
 ((pr L full _).exp 0 ts (by omega) hl).unf.mono (Nat.zero_le _)
theorem z018 {v2:z01 × z04} {see:ByteArray→Bool} (hs:∀ w,z0l v2.1 w=some (see w)) (h1:∀ w w',see w=true→see w'=true→w=w') (l:z04) :
  iter (z6g v2) (0,⟨0,l,zE⟩)=some (.inr (⟨match zhx see cmpS with|some j=>(j:Int)+1|none=>0,l,zE⟩:z1k)):=by
 refine zmg (see:=see) (ws:=cmpS) (fun k b=>(k,(⟨b,l,zE⟩:z1k))) (fun b=>(⟨b,l,zE⟩:z1k)) (fun k=>k+1) h1 (by decide) (fun k w best hk hi=>?_) (fun best=>?_) 0
 ·have hk6:k<6:=hk
  unfold z6g
  rw [if_pos (by simp;omega)]
  show (((idx cmpS (k:Int)>>=fun v3=>z0l v2.1 v3>>=fun v4=>if v4 then some (IntKind.i64.wrap ((k:Int)+1)) else some best:Option Int))>>=fun j2=>some (Sum.inl ((IntKind.i64.wrap ((k:Int)+1)),(z1k.mk j2 l zE))))=_
  rw [hi]
  have wk:IntKind.i64.wrap ((k:Int)+1)=(k:Int)+1:=w64 (by omega) (by omega)
  simp only [Option.bind_eq_bind,Option.bind_some,hs,wk]
  cases see w <;> simp
 ·unfold z6g
  rw [if_neg (by simp [cmpS])]
theorem z019 {v2:z01 × z04} (h:v2.1.E≠0) (l:z04):iter (z6g v2) (0,⟨0,l,zE⟩)=some (.inr (⟨0,l,zE⟩:z1k)):=z018 (see:=fun _=>false) (fun w=>ise h w) (fun w w' h=>by cases h) l
section
variable {L:Int} {full ts:List Tok}
theorem zup {H:Nat} (hl:Sf full ts):TR L full Prod.fst mkVr H (fun _=>z5y (RS L full ts)) (zll L ts):=by
 unfold zll z5y
 refine TR.bind (π':=Prod.fst) (mk':=mkVr) (z6m hl _) (fun _ r1 h1=>?_) (fun a c p hc he=>⟨(a,⟨0,vR,zE⟩),he,fun n=>.inl (by
  have h:a.E≠0:=z68 hc he
  have e:=z019 (v2:=(a,vR)) h vR
  unfold zE at e
  simp only [z0bj h,Option.bind_eq_bind,Option.bind_some,e,Sum.elim_inr,zuo h,beq_self_eq_true,if_true]
  rfl)⟩)
 have l1:=hl.suf (z0z h1).1
 refine TR.bind (π':=Prod.fst) (mk':=mkVr) (zqi l1) (fun l r2 h2=>?_) (fun a c p hc he=>⟨(a.1,⟨0,a.2,zE⟩),he,fun n=>.inl (by
  have h:a.1.E≠0:=z68 hc he
  have e:=z019 (v2:=a) h a.2
  unfold zE at e
  simp only [Option.bind_eq_bind,Option.bind_some,e,Sum.elim_inr,zuo h,beq_self_eq_true,if_true]
  rfl)⟩)
 have l2:=l1.suf (zgt h2)
 have e:=z018 (v2:=(RS L full r2,l)) (see:=fun w=>z27 w r2) (fun w=>is_R l2 w) (fun w w' h h'=>zmf h h') l
 rw [← zex] at e
 cases hs:z3p cmpS r2 with
 | none =>
  rw [hs] at e
  unfold zE at e
  refine TR.err (r:=(⟨full.map tokR,(RS L full r2).I,L,5,sAt L r2⟩,⟨0,l,zE⟩)) (fun n=>?_) (by decide) ⟨rfl,rfl⟩
  simp only [Option.bind_eq_bind,Option.bind_some,e,Sum.elim_inr,zhw l2,beq_self_eq_true,if_true]
  rfl
 | some j =>
  rw [hs] at e
  unfold zE at e
  obtain ⟨w,hw⟩:=zg0 hs
  have q1:(((j:Int)+1)==0)=false:=by simp;omega
  refine TR.eq (y:=fun _=>z5e (RS L full r2.tail) 0>>=fun v6=>z0a v6.1 (ByteArray.mk #[41])>>=fun v7=>some (v7,(z1k.mk (1+(j:Int)) l v6.2))) ?_ (fun n=>by
   simp only [Option.bind_eq_bind,Option.bind_some,e,Sum.elim_inr,q1,Bool.false_eq_true,if_false,zkr l2 hw,Int.add_comm 1 (j:Int)])
  refine TR.bind (π':=Prod.fst) (mk':=mkVr) (zqi l2.tail) (fun x r3 h3=>?_) (fun a c p hc he=>⟨(a.1,⟨1+(j:Int),l,a.2⟩),he,fun n=>.inl (by rw [zjw (z68 hc he)];rfl)⟩)
  exact TR.bind (π':=Prod.fst) (mk':=mkVr) (z6m (l2.tail.suf (zgt h3)) _) (fun _ r4 h4=>TR.pure (fun n=>rfl)) (fun a c p hc he=>⟨(a,⟨1+(j:Int),l,x⟩),he,fun n=>.inl rfl⟩)
end
abbrev T6 (β:Type):=List z0r × Int × Int × Int × Int × List β
def tq {β:Type} (a:z01) (l:List β):T6 β:=(a.L,a.I,a.End,a.E,a.At,l)
noncomputable def QF {β O:Type} (body:T6 β→Option (Sum (T6 β) (Sum O (T6 β)))) (a:z01) (l:List β):Option (z01 × List β) :=
 iter body (tq a l)>>=Sum.elim (fun _=>none) (fun j1=>some (⟨j1.1,j1.2.1,j1.2.2.1,j1.2.2.2.1,j1.2.2.2.2.1⟩,j1.2.2.2.2.2))
section
variable {β O:Type} {body:T6 β→Option (Sum (T6 β) (Sum O (T6 β)))} {a:z01} {l:List β}
theorem zj2 (h:body (tq a l)=some (.inr (.inr (tq a l)))):QF body a l=some (a,l):=by unfold QF;rw [z3i h];rfl
theorem zuq {x:Option (z01 × List β)} (h:body (tq a l)=x>>=fun v=>some (.inl (tq v.1 v.2))):QF body a l=x>>=fun v=>QF body v.1 v.2:=by
 unfold QF
 rw [z8o,h]
 simp only [Option.bind_eq_bind,Option.bind_assoc]
 congr 1
theorem zwj {ρ:Type} (k:z01 × List β→Option ρ):iter body (tq a l)>>=Sum.elim (fun _=>none) (fun j1=>k (⟨j1.1,j1.2.1,j1.2.2.1,j1.2.2.2.1,j1.2.2.2.2.1⟩,j1.2.2.2.2.2))=QF body a l>>=k:=by
 unfold QF
 simp only [Option.bind_eq_bind,Option.bind_assoc]
 congr 1;funext o
 cases o <;> rfl
end
noncomputable def SBr (n:Nat) (i:Int):=z3f (z2j n) (z1m n) i
noncomputable def ABr (n:Nat) (i:Int):=z5f (z2j n) (z1m n) i
noncomputable def RLs (n:Nat) (i:Int) (a:z01) (l:List z03):Option (z01 × List z03):=iter (SBr n i) (tq a l)>>=Sum.elim (fun r=>some r) (fun j1=>some (⟨j1.1,j1.2.1,j1.2.2.1,j1.2.2.2.1,j1.2.2.2.2.1⟩,j1.2.2.2.2.2))
noncomputable def ALr (n:Nat) (i:Int) (a:z01) (l:List z2k):Option (z01 × List z2k):=QF (ABr n i) a l
noncomputable def ArmR (n:Nat) (i:Int) (a:z01):Option (z01 × z2k):=z0k a>>=fun v21=>z0a v21.1 (ByteArray.mk #[40])>>=fun v22=>z0k v22>>=fun v23=>z0a v23.1 (ByteArray.mk #[41])>>=fun v24=>z1m n v24 i>>=fun v25=>some (v25.1,z2k.mk v21.2 v23.2 v25.2)
theorem z043 {n:Nat} {i:Int} {a:z01} {l:List z03} {Y:Option (z01 × z03)} (h:SBr n i (tq a l)=Y>>=fun s=>app 288 l [s.2]>>=fun v=>some (.inl (tq s.1 v))) :
  RLs n i a l=Y>>=fun s=>app 288 l [s.2]>>=fun v=>RLs n i s.1 v:=by
 unfold RLs
 rw [z8o,h]
 simp only [Option.bind_eq_bind,Option.bind_assoc]
 congr 1
theorem z08h {n:Nat} {i:Int} {a:z01} {l:List z03} (h:SBr n i (tq a l)=some (.inr (.inl (a,l)))):RLs n i a l=some (a,l):=by unfold RLs;rw [z3i h];rfl
section
variable {a:z01} (h:a.E≠0)
include h
theorem z044 (n:Nat) (i:Int) (l:List z03):RLs n i a l=some (a,l):=by
 unfold RLs
 rw [z3i (r:=.inr (tq a l)) (by unfold SBr z3f;rw [if_neg (by simpa [tq] using h)])];rfl
theorem z045 (n:Nat) (i:Int) (l:List z2k):ALr n i a l=some (a,l):=zj2 (by
 unfold ABr z5f
 rw [if_neg (by simpa [tq] using h)];rfl)
theorem z01a (n:Nat) (i:Int):Sn n 2 (z1m n a i) (a,[]):=by
 cases n with
 | zero=>exact .inr ⟨rfl,by omega⟩
 | succ n =>
  simp only [z1m,ise h,zjw h,Option.bind_eq_bind,Option.bind_some,Bool.false_eq_true,if_false]
  cases n with
  | zero=>exact .inr ⟨rfl,by omega⟩
  | succ n =>
   refine .inl ?_
   have e:z2j (n+1) a (IntKind.i64.wrap (i+1))=some (a,[]):=z044 h n _ []
   rw [e]
   simp only [zjw h,Option.bind_some]
theorem z08i (i:Int):z8d a i=some (a,[]):=Sn.unf (h:=1) fun n=>by
 cases n with
 | zero=>exact .inr ⟨rfl,by omega⟩
 | succ n=>exact .inl (z044 h n i [])
end
section
variable {L:Int} {full ts:List Tok}
theorem z0d6 (hl:Sf full ts) (n:Nat) (i:Int):ALr n i (RS L full ts) []=ArmR n i (RS L full ts)>>=fun v=>ALr n i v.1 [v.2]:=by
 have:=zuq (body:=ABr n i) (a:=RS L full ts) (l:=[]) (x:=ArmR n i (RS L full ts)>>=fun v=>some (v.1,[v.2])) (by
  unfold ABr z5f
  rw [if_pos (by rfl),if_pos (by rfl)]
  unfold ArmR
  simp only [Option.bind_eq_bind,Option.bind_some,Option.bind_assoc,if_true]
  rfl)
 unfold ALr
 rw [this]
 simp only [Option.bind_eq_bind,Option.bind_assoc,Option.bind_some]
theorem z0d7 (hl:Sf full ts) (n:Nat) (i:Int) {l:List z2k} (h0:l≠[]) (h1:l.length≤2000):ALr n i (RS L full ts) l=if z27 (ByteArray.mk #[125]) ts then some (RS L full ts,l) else ArmR n i (RS L full ts)>>=fun v=>ALr n i v.1 (l++[v.2]):=by
 have hlen:(((tq (RS L full ts) l).2.2.2.2.2.length:Int)==0)=false:=by
  cases l with
  | nil=>exact absurd rfl h0
  | cons x r=>simp [tq];omega
 have e:z01.mk (tq (RS L full ts) l).1 (tq (RS L full ts) l).2.1 (tq (RS L full ts) l).2.2.1 (tq (RS L full ts) l).2.2.2.1 (tq (RS L full ts) l).2.2.2.2.1=RS L full ts:=rfl
 cases hs:z27 (ByteArray.mk #[125]) ts with
 | true =>
  refine zj2 (body:=ABr n i) ?_
  unfold ABr z5f
  rw [if_pos (by rfl),hlen,if_neg (by decide),e,is_R hl,hs];rfl
 | false =>
  have:=zuq (body:=ABr n i) (a:=RS L full ts) (l:=l) (x:=ArmR n i (RS L full ts)>>=fun v=>some (v.1,l++[v.2])) (by
   unfold ABr z5f
   rw [if_pos (by rfl),hlen,if_neg (by decide),e,is_R hl,hs]
   unfold ArmR
   simp only [Option.bind_eq_bind,Option.bind_some,Option.bind_assoc,Bool.not_false,if_true]
   congr 1;funext v21
   congr 1;funext v22
   congr 1;funext v23
   congr 1;funext v24
   congr 1;funext v25
   show (app 56 l _).bind _=_
   rw [z6o (by simp;omega)];rfl)
  unfold ALr
  rw [this]
  simp only [Option.bind_eq_bind,Option.bind_assoc,Option.bind_some,Bool.false_eq_true,if_false]
end
def TSr (L:Int) (full:List Tok) (H:Nat) (i:Int) (ts:List Tok):Option (Rs z03)→Prop
 | none=>∀ n l,SBr n i (tq (RS L full ts) l)=some (.inr (.inl (RS L full ts,l)))
 | some o=>o≠.out→∃ Y:Nat→Option (z01 × z03),TR L full Prod.fst mkVr H Y o∧∀ n l,SBr n i (tq (RS L full ts) l)=Y n>>=fun s=>app 288 l [s.2]>>=fun v=>some (.inl (tq s.1 v))
structure PU (L:Int) (full:List Tok) (f:Nat):Prop where
 stmts:∀ (i:Nat) ts acc,i≤24→Sf full ts→acc.length+ts.length≤2000→TR L full Prod.fst (fun (v:List z03) a=>(a,acc++v)) (2*f+6) (fun n=>RLs n i (RS L full ts) acc) (z8q L f i ts)
 stmt:∀ (i:Nat) ts,i≤24→Sf full ts→TSr L full (2*f+6) i ts (zc9 L f i ts)
 arm:∀ (i:Nat) ts,i≤24→Sf full ts→TR L full Prod.fst mkVr (2*f+6) (fun n=>ArmR n i (RS L full ts)) (sArm L f i ts)
 arms:∀ (i:Nat) ts acc,i≤24→Sf full ts→acc≠[]→acc.length+ts.length≤2000→TR L full Prod.fst (fun (v:List z2k) a=>(a,acc++v)) (2*f+6) (fun n=>ALr n i (RS L full ts) acc) (zfe L f i ts)
 block:∀ (i:Nat) ts,i≤24→Sf full ts→TR L full Prod.fst mkVr (2*f+6) (fun n=>z1m n (RS L full ts) i) (z9y L f i ts)
instance:Inhabited z01:=⟨⟨[],0,0,0,0⟩⟩
instance:Inhabited z03:=⟨.mk 0 nB nB zE zC [] [] []⟩
theorem z4u {ρ:Type} {P:ρ→Prop} {x:Option ρ} {H:Nat} {r:ρ} (e:x=some r) (p:P r):∃ r,P r∧∀ n,Sn n H x r:=⟨r,p,fun _=>.inl e⟩
theorem eR {a:z01} (h:a.E≠0):(∀ w,z0a a w=some a)∧z0k a=some (a,nB)∧z2y a=some (a,0)∧(∀ d,z5e a d=some (a,vR)):=⟨zjw h,z017 h,nume h,z0bj h⟩
theorem of_R {L:Int} {full ts:List Tok} (h:Sf full ts) (k:Int):(if decide ((RS L full ts).I<((RS L full ts).L.length:Int))=true then (idx (RS L full ts).L (RS L full ts).I).bind fun v=>some (v.Kind==k) else some false)=some (sOf k ts):=by
 rw [znx h]
 cases ts with
 | nil=>rfl
 | cons t r =>
  rw [if_pos (by simp)]
  show (idx (full.map tokR) _).bind _=_
  rw [h.idxI];rfl
theorem z0bm {a:z01} (h:a.E≠0) (n:Nat) (i:Int):Sn n 1 (z2j n a i) (a,[]):=by
 cases n with
 | zero=>exact .inr ⟨rfl,by omega⟩
 | succ n=>exact .inl (z044 h n i [])
theorem pu (L:Int) (full:List Tok):∀ f,PU L full f:=by
 intro f
 induction f with
 | zero=>exact ⟨fun i ts acc _ _ _=>by simp only [z8q];exact zj1,fun i ts _ _=>by
   simp only [zc9]
   exact fun h=>absurd rfl h,fun i ts _ _=>by simp only [sArm];exact zj1,fun i ts acc _ _ _ _=>by simp only [zfe];exact zj1,fun i ts _ _=>by simp only [z9y];exact zj1⟩
 | succ f ih =>
  have sf:=sufS L f
  refine ⟨fun i ts acc hi hl ha=>?_,fun i ts hi hl=>?_,fun i ts hi hl=>?_,fun i ts acc hi hl h0 ha=>?_,fun i ts hi hl=>?_⟩
  ·-- statements
   simp only [z8q]
   have h1:=ih.stmt i ts hi hl
   cases hs:zc9 L f i ts with
   | none =>
    rw [hs] at h1
    exact TR.pure (fun n=>by rw [z08h (h1 n acc)];simp)
   | some o =>
    rw [hs] at h1
    intro hne
    have ho:o≠.out:=fun h=>by subst h;exact hne rfl
    obtain ⟨Y,hY,hb⟩:=h1 ho
    refine (TR.eq (y:=fun n=>Y n>>=fun s=>app 288 acc [s.2]>>=fun v=>RLs n i s.1 v) (TR.mono (H:=2*f+6) ?_ (by omega)) (fun n=>z043 (hb n acc))) hne
    refine TR.bind (π':=Prod.fst) (mk':=fun (v:List z03) a=>(a,acc++v)) hY (fun s r hor=>?_) (fun r c p hc he=>⟨(r.1,acc++[r.2]),he,fun n=>.inl (by rw [z6o (by simp;omega)];exact z044 (z68 hc he) n _ _)⟩)
    subst hor
    have q:=sf.stmt _ _ _ _ hs
    refine TR.eq (y:=fun n=>RLs n i (RS L full r) (acc++[s])) ?_ (fun n=>by show (app 288 acc [s]).bind _=_;rw [z6o (by simp;omega)];rfl)
    exact TR.map (g:=fun l=>s::l) (ih.stmts i r (acc++[s]) hi (hl.suf q.1) (by simp;omega)) (fun v a=>by simp)
  ·-- a statement
   simp only [zc9]
   have e:∀ l:List z03,z01.mk (tq (RS L full ts) l).1 (tq (RS L full ts) l).2.1 (tq (RS L full ts) l).2.2.1 (tq (RS L full ts) l).2.2.2.1 (tq (RS L full ts) l).2.2.2.2.1=RS L full ts:=fun l=>rfl
   have e2:∀ {w:ByteArray} (l:List z03),z27 w ts=true→z01.mk (tq (RS L full ts) l).1 (IntKind.i64.wrap ((tq (RS L full ts) l).2.1+1)) (tq (RS L full ts) l).2.2.1 (tq (RS L full ts) l).2.2.2.1 (tq (RS L full ts) l).2.2.2.2.1=RS L full ts.tail:=fun l h=>zkr hl h
   have e3:∀ l:List z03,(if decide ((tq (RS L full ts) l).2.1<((tq (RS L full ts) l).1.length:Int))=true then (idx (tq (RS L full ts) l).1 (tq (RS L full ts) l).2.1).bind fun v=>some (v.Kind==1) else some false)=some (sOf 1 ts):=fun l=>of_R (L:=L) hl 1
   cases h1:z27 (ByteArray.mk #[105,102]) ts with
   | true =>
    simp only [if_true]
    refine fun _=>⟨fun n=>z5y (RS L full ts.tail)>>=fun v2=>z1m n v2.1 i>>=fun v3=>z0l v3.1 (ByteArray.mk #[101,108,115,101])>>=fun v4=>if v4 then (z1m n (z01.mk v3.1.L (IntKind.i64.wrap (v3.1.I+1)) v3.1.End v3.1.E v3.1.At) i>>=fun v5=>some (v5.1,z03.mk 2 nB nB zE v2.2 v3.2 v5.2 [])) else some (v3.1,z03.mk 2 nB nB zE v2.2 v3.2 [] []),?_,fun n l=>?_⟩
    ·refine TR.mono (H:=2*f+6) ?_ (by omega)
     refine TR.bind (π':=Prod.fst) (mk':=mkVr) (zup hl.tail) (fun c r1 q1=>?_) (fun a c p hc he=>⟨(a.1,.mk 2 nB nB zE a.2 [] [] []),he,fun n=>((z01a (z68 hc he) n i).mono (show 2≤2*f+6 by omega)).bind (f:=fun v3=>z0l v3.1 (ByteArray.mk #[101,108,115,101])>>=fun v4=>if v4 then (z1m n (z01.mk v3.1.L (IntKind.i64.wrap (v3.1.I+1)) v3.1.End v3.1.E v3.1.At) i>>=fun v5=>some (v5.1,z03.mk 2 nB nB zE a.2 v3.2 v5.2 [])) else some (v3.1,z03.mk 2 nB nB zE a.2 v3.2 [] [])) (.inl (by rw [ise (z68 hc he)];rfl))⟩)
     have l1:=hl.tail.suf (zax q1).1
     refine TR.bind (π':=Prod.fst) (mk':=mkVr) (ih.block i r1 hi l1) (fun b r2 q2=>?_) (fun a cc p hc he=>⟨(a.1,.mk 2 nB nB zE c a.2 [] []),he,fun n=>.inl (by rw [ise (z68 hc he)];rfl)⟩)
     have l2:=l1.suf (sf.block _ _ _ _ q2)
     cases h4:z27 (ByteArray.mk #[101,108,115,101]) r2 with
     | true =>
      simp only [if_true]
      refine TR.eq (y:=fun n=>z1m n (RS L full r2.tail) i>>=fun v5=>some (v5.1,z03.mk 2 nB nB zE c b v5.2 [])) ?_ (fun n=>by simp only [is_R l2,h4,Option.bind_eq_bind,Option.bind_some,if_true,zkr l2 h4])
      exact TR.bind (π':=Prod.fst) (mk':=mkVr) (ih.block i r2.tail hi l2.tail) (fun l r3 h5=>TR.pure (fun n=>rfl)) (fun a cc p hc he=>⟨(a.1,.mk 2 nB nB zE c b a.2 []),he,fun n=>.inl rfl⟩)
     | false =>
      simp only [Bool.false_eq_true,if_false]
      exact TR.pure (fun n=>by simp only [is_R l2,h4,Option.bind_eq_bind,Option.bind_some,Bool.false_eq_true,if_false])
    ·unfold SBr z3f
     rw [if_pos (by rfl)]
     simp only [e,e2 l h1,is_R hl,h1,Option.bind_eq_bind,Option.bind_some,Option.bind_assoc,if_true]
     congr 1;funext v2
     congr 1;funext v3
     congr 1;funext v4
     cases v4 with
     | true=>simp only [if_true,Option.bind_assoc];rfl
     | false=>rfl
   | false =>
   simp only [Bool.false_eq_true,if_false]
   cases h2:z27 (ByteArray.mk #[119,104,105,108,101]) ts with
   | true =>
    simp only [if_true]
    refine fun _=>⟨fun n=>z5y (RS L full ts.tail)>>=fun v2=>z1m n v2.1 i>>=fun v3=>some (v3.1,z03.mk 3 nB nB zE v2.2 v3.2 [] []),?_,fun n l=>?_⟩
    ·refine TR.mono (H:=2*f+6) ?_ (by omega)
     refine TR.bind (π':=Prod.fst) (mk':=mkVr) (zup hl.tail) (fun c r1 q1=>?_) (fun a c p hc he=>⟨(a.1,.mk 3 nB nB zE a.2 [] [] []),he,fun n=>((z01a (z68 hc he) n i).mono (show 2≤2*f+6 by omega)).bind (f:=fun v3=>some (v3.1,z03.mk 3 nB nB zE a.2 v3.2 [] [])) (.inl rfl)⟩)
     have l1:=hl.tail.suf (zax q1).1
     exact TR.bind (π':=Prod.fst) (mk':=mkVr) (ih.block i r1 hi l1) (fun b r2 q2=>TR.pure (fun n=>rfl)) (fun a cc p hc he=>⟨(a.1,.mk 3 nB nB zE c a.2 [] []),he,fun n=>.inl rfl⟩)
    ·unfold SBr z3f
     rw [if_pos (by rfl)]
     simp only [e,e2 l h2,is_R hl,h1,h2,Option.bind_eq_bind,Option.bind_some,Option.bind_assoc,if_true,Bool.false_eq_true,if_false]
     rfl
   | false =>
   simp only [Bool.false_eq_true,if_false]
   cases h3:z27 (ByteArray.mk #[115,101,110,100]) ts with
   | true =>
    simp only [if_true]
    refine fun _=>⟨fun n=>z0k (RS L full ts.tail)>>=fun v10=>z0a v10.1 (ByteArray.mk #[46])>>=fun v11=>z0k v11>>=fun v12=>z0a v12.1 (ByteArray.mk #[40])>>=fun v13=>z5e v13 0>>=fun v14=>z0a v14.1 (ByteArray.mk #[41])>>=fun v15=>z0a v15 (ByteArray.mk #[59])>>=fun v16=>some (v16,z03.mk 4 v10.2 v12.2 v14.2 zC [] [] []),?_,fun n l=>?_⟩
    ·unfold zop
     refine TR.bind (π':=Prod.fst) (mk':=mkVr) (za2 hl.tail) (fun m r1 q1=>?_) (fun r c p hc he=>z4u (by simp only [eR (a:=r.1) (z68 hc he),Option.bind_eq_bind,Option.bind_some];rfl) ⟨he.1,he.2⟩)
     have l1:=hl.tail.suf (z1o q1).1
     refine TR.bind (π':=Prod.fst) (mk':=mkVr) (z6m l1 _) (fun _ r2 q2=>?_) (fun r c p hc he=>z4u (by simp only [eR (a:=r) (z68 hc he),Option.bind_eq_bind,Option.bind_some];rfl) ⟨he.1,he.2⟩)
     have l2:=l1.suf (z0z q2).1
     refine TR.bind (π':=Prod.fst) (mk':=mkVr) (za2 l2) (fun t r3 q3=>?_) (fun r c p hc he=>z4u (by simp only [eR (a:=r.1) (z68 hc he),Option.bind_eq_bind,Option.bind_some];rfl) ⟨he.1,he.2⟩)
     have l3:=l2.suf (z1o q3).1
     refine TR.bind (π':=Prod.fst) (mk':=mkVr) (z6m l3 _) (fun _ r4 q4=>?_) (fun r c p hc he=>z4u (by simp only [eR (a:=r) (z68 hc he),Option.bind_eq_bind,Option.bind_some];rfl) ⟨he.1,he.2⟩)
     have l4:=l3.suf (z0z q4).1
     refine TR.bind (π':=Prod.fst) (mk':=mkVr) (zqi l4) (fun x r5 q5=>?_) (fun r c p hc he=>z4u (by simp only [eR (a:=r.1) (z68 hc he),Option.bind_eq_bind,Option.bind_some];rfl) ⟨he.1,he.2⟩)
     have l5:=l4.suf (zgt q5)
     refine TR.bind (π':=Prod.fst) (mk':=mkVr) (z6m l5 _) (fun _ r6 q6=>?_) (fun r c p hc he=>z4u (by simp only [eR (a:=r) (z68 hc he),Option.bind_eq_bind,Option.bind_some];rfl) ⟨he.1,he.2⟩)
     have l6:=l5.suf (z0z q6).1
     exact TR.bind (π':=Prod.fst) (mk':=mkVr) (z6m l6 _) (fun _ r7 q7=>TR.pure (fun n=>rfl)) (fun a c p hc he=>⟨(a,_),he,fun n=>.inl rfl⟩)
    ·unfold SBr z3f
     rw [if_pos (by rfl)]
     simp only [e,e2 l h3,is_R hl,h1,h2,h3,Option.bind_eq_bind,Option.bind_some,Option.bind_assoc,if_true,Bool.false_eq_true,if_false]
     rfl
   | false =>
   simp only [Bool.false_eq_true,if_false]
   cases h4:z27 (ByteArray.mk #[114,101,99,118]) ts with
   | true =>
    simp only [if_true]
    refine fun _=>⟨fun n=>z0k (RS L full ts.tail)>>=fun v18=>z0a v18.1 (ByteArray.mk #[123])>>=fun v19=>ALr n i v19 []>>=fun w=>z0a w.1 (ByteArray.mk #[125])>>=fun v27=>some (v27,z03.mk 5 v18.2 nB zE zC [] [] w.2),?_,fun n l=>?_⟩
    ·refine TR.mono (H:=2*f+6) ?_ (by omega)
     refine TR.bind (π':=Prod.fst) (mk':=mkVr) (za2 hl.tail) (fun m r1 q1=>?_) (fun a c p hc he=>⟨(a.1,.mk 5 a.2 nB zE zC [] [] []),he,fun n=>.inl (by
      have h:a.1.E≠0:=z68 hc he
      simp only [zjw h,z045 h,Option.bind_eq_bind,Option.bind_some])⟩)
     have l1:=hl.tail.suf (z1o q1).1
     refine TR.bind (π':=Prod.fst) (mk':=mkVr) (z6m l1 _) (fun _ r2 q2=>?_) (fun a c p hc he=>⟨(a,.mk 5 m nB zE zC [] [] []),he,fun n=>.inl (by
      have h:a.E≠0:=z68 hc he
      simp only [zjw h,z045 h,Option.bind_eq_bind,Option.bind_some])⟩)
     have l2:=l1.suf (z0z q2).1
     refine TR.eq (y:=fun n=>ArmR n i (RS L full r2)>>=fun v=>ALr n i v.1 [v.2]>>=fun w=>z0a w.1 (ByteArray.mk #[125])>>=fun v27=>some (v27,z03.mk 5 m nB zE zC [] [] w.2)) ?_ (fun n=>by
      rw [z0d6 l2]
      simp only [Option.bind_eq_bind,Option.bind_assoc])
     refine TR.bind (π':=Prod.fst) (mk':=mkVr) (ih.arm i r2 hi l2) (fun x r3 q3=>?_) (fun a c p hc he=>⟨(a.1,.mk 5 m nB zE zC [] [] [a.2]),he,fun n=>.inl (by
      have h:a.1.E≠0:=z68 hc he
      simp only [zjw h,z045 h,Option.bind_eq_bind,Option.bind_some])⟩)
     have z3:=sf.arm _ _ _ _ q3
     have l3:=l2.suf z3.1
     have z2:=l2.len
     refine TR.bind (π':=Prod.fst) (mk':=mkVr) (ih.arms i r3 [x] hi l3 (by simp) (by simp;omega)) (fun w r4 q4=>?_) (fun a c p hc he=>⟨(a.1,.mk 5 m nB zE zC [] [] a.2),he,fun n=>.inl (by
      have h:a.1.E≠0:=z68 hc he
      simp only [zjw h,Option.bind_eq_bind,Option.bind_some])⟩)
     have l4:=l3.suf (sf.arms _ _ _ _ q4)
     exact TR.bind (π':=Prod.fst) (mk':=mkVr) (z6m l4 _) (fun _ r5 q5=>TR.pure (fun n=>rfl)) (fun a c p hc he=>⟨(a,.mk 5 m nB zE zC [] [] ([x]++w)),he,fun n=>.inl rfl⟩)
    ·unfold SBr z3f
     rw [if_pos (by rfl)]
     simp only [e,e2 l h4,is_R hl,h1,h2,h3,h4,Option.bind_eq_bind,Option.bind_some,Option.bind_assoc,if_true,Bool.false_eq_true,if_false]
     congr 1;funext v18
     congr 1;funext v19
     unfold ALr QF
     rw [Option.bind_eq_bind,Option.bind_assoc]
     show (iter (ABr n i) (tq v19 [])).bind _=(iter (ABr n i) (tq v19 [])).bind _
     congr 1;funext o
     cases o with
     | inl _=>rfl
     | inr _=>simp only [Sum.elim_inr,Option.bind_some,Option.bind_assoc];rfl
   | false =>
   simp only [Bool.false_eq_true,if_false]
   cases h5:z27 (ByteArray.mk #[97,115,115,101,114,116]) ts with
   | true =>
    simp only [if_true]
    refine fun _=>⟨fun n=>z5y (RS L full ts.tail)>>=fun v29=>z0a v29.1 (ByteArray.mk #[59])>>=fun v30=>some (v30,z03.mk 6 nB nB zE v29.2 [] [] []),?_,fun n l=>?_⟩
    ·unfold zfg
     refine TR.bind (π':=Prod.fst) (mk':=mkVr) (zup hl.tail) (fun m r1 q1=>?_) (fun r c p hc he=>z4u (by simp only [eR (a:=r.1) (z68 hc he),Option.bind_eq_bind,Option.bind_some];rfl) ⟨he.1,he.2⟩)
     have l1:=hl.tail.suf (zax q1).1
     exact TR.bind (π':=Prod.fst) (mk':=mkVr) (z6m l1 _) (fun _ r2 q2=>TR.pure (fun n=>rfl)) (fun a c p hc he=>⟨(a,_),he,fun n=>.inl rfl⟩)
    ·unfold SBr z3f
     rw [if_pos (by rfl)]
     simp only [e,e2 l h5,is_R hl,h1,h2,h3,h4,h5,Option.bind_eq_bind,Option.bind_some,Option.bind_assoc,if_true,Bool.false_eq_true,if_false]
     rfl
   | false =>
   simp only [Bool.false_eq_true,if_false]
   cases h6:z27 (ByteArray.mk #[105,110,112,117,116]) ts with
   | true =>
    simp only [if_true]
    refine fun _=>⟨fun n=>z0k (RS L full ts.tail)>>=fun v32=>z0a v32.1 (ByteArray.mk #[59])>>=fun v33=>some (v33,z03.mk 7 v32.2 nB zE zC [] [] []),?_,fun n l=>?_⟩
    ·unfold zj0
     refine TR.bind (π':=Prod.fst) (mk':=mkVr) (za2 hl.tail) (fun m r1 q1=>?_) (fun r c p hc he=>z4u (by simp only [eR (a:=r.1) (z68 hc he),Option.bind_eq_bind,Option.bind_some];rfl) ⟨he.1,he.2⟩)
     have l1:=hl.tail.suf (z1o q1).1
     exact TR.bind (π':=Prod.fst) (mk':=mkVr) (z6m l1 _) (fun _ r2 q2=>TR.pure (fun n=>rfl)) (fun a c p hc he=>⟨(a,_),he,fun n=>.inl rfl⟩)
    ·unfold SBr z3f
     rw [if_pos (by rfl)]
     simp only [e,e2 l h6,is_R hl,h1,h2,h3,h4,h5,h6,Option.bind_eq_bind,Option.bind_some,Option.bind_assoc,if_true,Bool.false_eq_true,if_false]
     rfl
   | false =>
   simp only [Bool.false_eq_true,if_false]
   cases h7:sOf 1 ts with
   | true =>
    simp only [if_true]
    refine fun _=>⟨fun n=>z0k (RS L full ts)>>=fun v35=>z0a v35.1 (ByteArray.mk #[61])>>=fun v36=>z5e v36 0>>=fun v37=>z0a v37.1 (ByteArray.mk #[59])>>=fun v38=>some (v38,z03.mk 1 v35.2 nB v37.2 zC [] [] []),?_,fun n l=>?_⟩
    ·unfold zdp
     refine TR.bind (π':=Prod.fst) (mk':=mkVr) (za2 hl) (fun m r1 q1=>?_) (fun r c p hc he=>z4u (by simp only [eR (a:=r.1) (z68 hc he),Option.bind_eq_bind,Option.bind_some];rfl) ⟨he.1,he.2⟩)
     have l1:=hl.suf (z1o q1).1
     refine TR.bind (π':=Prod.fst) (mk':=mkVr) (z6m l1 _) (fun _ r2 q2=>?_) (fun r c p hc he=>z4u (by simp only [eR (a:=r) (z68 hc he),Option.bind_eq_bind,Option.bind_some];rfl) ⟨he.1,he.2⟩)
     have l2:=l1.suf (z0z q2).1
     refine TR.bind (π':=Prod.fst) (mk':=mkVr) (zqi l2) (fun x r3 q3=>?_) (fun r c p hc he=>z4u (by simp only [eR (a:=r.1) (z68 hc he),Option.bind_eq_bind,Option.bind_some];rfl) ⟨he.1,he.2⟩)
     have l3:=l2.suf (zgt q3)
     exact TR.bind (π':=Prod.fst) (mk':=mkVr) (z6m l3 _) (fun _ r4 q4=>TR.pure (fun n=>rfl)) (fun a c p hc he=>⟨(a,_),he,fun n=>.inl rfl⟩)
    ·have e3:=e3 l
     rw [h7] at e3
     unfold SBr z3f
     rw [if_pos (by rfl)]
     simp only [e,e3,is_R hl,h1,h2,h3,h4,h5,h6,Option.bind_eq_bind,Option.bind_some,Option.bind_assoc,if_true,Bool.false_eq_true,if_false]
     rfl
   | false =>
    simp only [Bool.false_eq_true,if_false]
    intro n l
    have e3:=e3 l
    rw [h7] at e3
    unfold SBr z3f
    rw [if_pos (by rfl)]
    simp only [e,e3,is_R hl,h1,h2,h3,h4,h5,h6,Option.bind_eq_bind,Option.bind_some,Option.bind_assoc,if_true,Bool.false_eq_true,if_false]
    rfl
  ·-- an arm
   simp only [sArm]
   refine TR.mono (H:=2*f+6) ?_ (by omega)
   unfold ArmR
   have er:∀ (a:z01) (s t:ByteArray),a.E≠0→∀ n,Sn n (2*f+6) (z1m n a i>>=fun v5=>some (v5.1,(z2k.mk s t v5.2))) (a,.mk s t []):=fun a s t h n=>((z01a h n i).mono (show 2≤2*f+6 by omega)).bind (f:=fun v5=>some (v5.1,(z2k.mk s t v5.2))) (.inl rfl)
   refine TR.bind (π':=Prod.fst) (mk':=mkVr) (za2 hl) (fun t r1 q1=>?_) (fun r c p hc he=>⟨(r.1,.mk r.2 nB []),he,fun n=>by
    have h:r.1.E≠0:=z68 hc he
    simp only [zjw h,z017 h,Option.bind_eq_bind,Option.bind_some]
    exact er r.1 r.2 nB h n⟩)
   have l1:=hl.suf (z1o q1).1
   refine TR.bind (π':=Prod.fst) (mk':=mkVr) (z6m l1 _) (fun _ r2 q2=>?_) (fun r c p hc he=>⟨(r,.mk t nB []),he,fun n=>by
    have h:r.E≠0:=z68 hc he
    simp only [zjw h,z017 h,Option.bind_eq_bind,Option.bind_some]
    exact er r t nB h n⟩)
   have l2:=l1.suf (z0z q2).1
   refine TR.bind (π':=Prod.fst) (mk':=mkVr) (za2 l2) (fun w r3 q3=>?_) (fun r c p hc he=>⟨(r.1,.mk t r.2 []),he,fun n=>by
    have h:r.1.E≠0:=z68 hc he
    simp only [zjw h,Option.bind_eq_bind,Option.bind_some]
    exact er r.1 t r.2 h n⟩)
   have l3:=l2.suf (z1o q3).1
   refine TR.bind (π':=Prod.fst) (mk':=mkVr) (z6m l3 _) (fun _ r4 q4=>?_) (fun r c p hc he=>⟨(r,.mk t w []),he,fun n=>er r t w (z68 hc he) n⟩)
   have l4:=l3.suf (z0z q4).1
   exact TR.bind (π':=Prod.fst) (mk':=mkVr) (ih.block i r4 hi l4) (fun b r5 q5=>TR.pure (fun n=>rfl)) (fun r c p hc he=>⟨(r.1,.mk t w r.2),he,fun n=>.inl rfl⟩)
  ·-- arms
   simp only [zfe]
   refine TR.eq (y:=fun n=>if z27 (ByteArray.mk #[125]) ts then some (RS L full ts,acc) else ArmR n i (RS L full ts)>>=fun v=>ALr n i v.1 (acc++[v.2])) ?_ (fun n=>z0d7 hl n i h0 (by omega))
   cases h1:z27 (ByteArray.mk #[125]) ts with
   | true =>
    simp only [if_true]
    exact TR.pure (fun n=>by simp)
   | false =>
    simp only [Bool.false_eq_true,if_false]
    refine TR.mono (H:=2*f+6) ?_ (by omega)
    refine TR.bind (π':=Prod.fst) (mk':=fun (v:List z2k) a=>(a,acc++v)) (ih.arm i ts hi hl) (fun x r ho=>?_) (fun r c p hc he=>⟨(r.1,acc++[r.2]),he,fun n=>.inl (z045 (z68 hc he) n _ _)⟩)
    have q:=sf.arm _ _ _ _ ho
    exact TR.map (g:=fun l=>x::l) (ih.arms i r (acc++[x]) hi (hl.suf q.1) (by simp) (by simp;omega)) (fun v a=>by simp)
  ·-- a block
   simp only [z9y]
   cases h1:(z27 (ByteArray.mk #[123]) ts&&decide (i=24)) with
   | true =>
    simp only [Bool.and_eq_true,decide_eq_true_eq] at h1
    simp only [if_true]
    obtain ⟨h1,h2⟩:=h1
    subst h2
    refine TR.mono (H:=1) ?_ (by omega)
    refine TR.up (H:=0) (x:=fun n=>some (⟨full.map tokR,(RS L full ts).I,L,6,sAt L ts⟩,[])) rfl (fun n=>by
     have:decide (((24:Nat):Int)≥24)=true:=rfl
     simp only [z1m,is_R hl,h1,Option.bind_eq_bind,Option.bind_some,if_true,this,zhw hl]) ?_
    exact TR.err (fun n=>rfl) (by decide) ⟨rfl,rfl⟩
   | false =>
    simp only [Bool.false_eq_true,if_false]
    have hj:(if z27 (ByteArray.mk #[123]) ts then some (decide ((i:Int)≥24)) else some false)=some false:=by
     cases hs:z27 (ByteArray.mk #[123]) ts with
     | false=>rfl
     | true =>
      rw [hs] at h1
      have h1:decide (i=24)=false:=h1
      have:decide ((i:Int)≥24)=false:=by simp at h1 ⊢;omega
      rw [this];rfl
    have wi:IntKind.i64.wrap ((i:Int)+1)=((i+1:Nat):Int):=by rw [w64 (by omega) (by omega)];omega
    refine TR.mono (H:=2*f+8) ?_ (by omega)
    refine TR.up (H:=2*f+7) (x:=fun n=>z0a (RS L full ts) (ByteArray.mk #[123])>>=fun v3=>z2j n v3 ((i+1:Nat):Int)>>=fun v4=>z0a v4.1 (ByteArray.mk #[125])>>=fun v5=>some (v5,v4.2)) rfl (fun n=>by
     simp only [z1m,is_R hl,Option.bind_eq_bind,Option.bind_some,hj,Bool.false_eq_true,if_false,wi]) ?_
    refine TR.bind (π':=Prod.fst) (mk':=mkVr) (z6m hl _) (fun _ r1 q1=>?_) (fun r c p hc he=>⟨(r,[]),he,fun n=>by
     have h:r.E≠0:=z68 hc he
     refine ((z0bm h n _).mono (show 1≤2*f+7 by omega)).bind (f:=fun v4=>z0a v4.1 (ByteArray.mk #[125])>>=fun v5=>some (v5,v4.2)) (.inl ?_)
     rw [zjw h];rfl⟩)
    have l1:=hl.suf (z0z q1).1
    have hi':i+1≤24:=by
     have hs:z27 (ByteArray.mk #[123]) ts=true:=by
      unfold z8z at q1
      split at q1
      ·assumption
      ·cases q1
     rw [hs] at h1
     have h1:decide (i=24)=false:=h1
     simp at h1;omega
    have hsl:TR L full Prod.fst mkVr (2*f+7) (fun n=>z2j n (RS L full r1) ((i+1:Nat):Int)) (z8q L f (i+1) r1):=TR.up (x:=fun n=>RLs n ((i+1:Nat):Int) (RS L full r1) []) rfl (fun n=>rfl) (by
     have:=ih.stmts (i+1) r1 [] hi' l1 (by simpa using l1.len)
     simpa using this)
    refine TR.bind (π':=Prod.fst) (mk':=mkVr) hsl (fun b r2 q2=>?_) (fun r c p hc he=>⟨(r.1,r.2),he,fun n=>.inl (by rw [zjw (z68 hc he)];rfl)⟩)
    have l2:=l1.suf (sf.stmts _ _ _ _ q2)
    exact TR.bind (π':=Prod.fst) (mk':=mkVr) (z6m l2 _) (fun _ r3 q3=>TR.pure (fun n=>rfl)) (fun r c p hc he=>⟨(r,b),he,fun n=>.inl rfl⟩)
theorem zpf {β O:Type} {L:Int} {full:List Tok} {body:T6 β→Option (Sum (T6 β) (Sum O (T6 β)))} {more:List Tok→Option (Rs β)} (m:More more)
  (h0:∀ ts l,Sf full ts→more ts=none→body (tq (RS L full ts) l)=some (.inr (.inr (tq (RS L full ts) l))))
  (h1:∀ ts o,Sf full ts→more ts=some o→∃ x,TR L full Prod.fst mkVr 0 (fun _=>x) o∧∀ l:List β,l.length≤2000→body (tq (RS L full ts) l)=x>>=fun v=>some (.inl (tq v.1 (l++[v.2]))))
  (h2:∀ a l,a.E≠0→body (tq a l)=some (.inr (.inr (tq a l)))) :
  ∀ f ts (l:List β),Sf full ts→l.length+ts.length≤2000→TR L full Prod.fst (fun (v:List β) a=>(a,l++v)) 0 (fun _=>QF body (RS L full ts) l) (z9d more f ts):=by
 intro f
 induction f with
 | zero=>intro ts l _ _;exact zj1
 | succ f ih =>
  intro ts l ht hl
  simp only [z9d]
  cases hm:more ts with
  | none=>exact TR.pure (fun n=>by rw [zj2 (h0 ts l ht hm)];simp)
  | some o =>
   obtain ⟨x,hx,hb⟩:=h1 ts o ht hm
   refine TR.eq (y:=fun _=>x>>=fun v=>QF body v.1 (l++[v.2])) ?_ (fun n=>by
    rw [zuq (x:=x>>=fun v=>some (v.1,l++[v.2])) (by rw [hb l (by omega)];simp only [Option.bind_eq_bind,Option.bind_assoc,Option.bind_some])]
    simp only [Option.bind_eq_bind,Option.bind_assoc,Option.bind_some])
   refine TR.bind (π':=Prod.fst) (mk':=fun (v:List β) a=>(a,l++v)) hx (fun v r ho=>?_) (fun r c p hc he=>⟨(r.1,l++[r.2]),he,fun n=>.inl (zj2 (h2 r.1 _ (z68 hc he)))⟩)
   subst ho
   have q:=m.suf _ _ _ hm
   exact TR.map (g:=fun w=>v::w) (ih r (l++[v]) (ht.suf q.1) (by simp;omega)) (fun w a=>by simp)
theorem z01b {v1:z01 × ByteArray} {see:ByteArray→Bool} (hs:∀ w,z0l v1.1 w=some (see w)) (h1:∀ w w',see w=true→see w'=true→w=w') :
  iter (z49 v1) (0,(-1))=some (.inr (match zhx see zoq with|some j=>(j:Int)|none=>-1)):=by
 refine zmg (see:=see) (ws:=zoq) (fun k b=>(k,b)) id id h1 (by decide) (fun k w best hk hi=>?_) (fun best=>?_) (-1)
 ·have hk3:k<3:=hk
  unfold z49
  rw [if_pos (by simp;omega)]
  show (((idx zoq (k:Int)>>=fun v3=>z0l v1.1 v3>>=fun v4=>if v4 then some (k:Int) else some best:Option Int))>>=fun j2=>some (Sum.inl ((IntKind.i64.wrap ((k:Int)+1)),j2)))=_
  rw [hi]
  have wk:IntKind.i64.wrap ((k:Int)+1)=(k:Int)+1:=w64 (by omega) (by omega)
  simp only [Option.bind_eq_bind,Option.bind_some,hs,wk]
  cases see w <;> simp
 ·unfold z49
  rw [if_neg (by simp [zoq])];rfl
section
variable {a:z01} (h:a.E≠0)
include h
theorem z0d8 (s:ByteArray):iter (z49 (a,s)) (0,(-1))=some (.inr (-1)):=z01b (see:=fun _=>false) (fun w=>ise h w) (fun w w' h=>by cases h)
theorem z0bn (l:List ByteArray):z2z (tq a l)=some (.inr (.inr (tq a l))):=by
 unfold z2z
 show (z0l a _>>=_)=_
 rw [ise h];rfl
theorem z0bo (l:List z6c):z5w (tq a l)=some (.inr (.inr (tq a l))):=by
 unfold z5w
 rw [if_neg (by simpa [tq] using h)];rfl
theorem z0bp (l:List ByteArray):z5x (tq a l)=some (.inr (.inr (tq a l))):=by
 unfold z5x
 show (z0l a _>>=_)=_
 rw [ise h];rfl
theorem z0d9 (l:List z3l):z8j (tq a l)=some (.inr (.inr (tq a l))):=by
 unfold z8j
 show (z0l a _>>=_)=_
 rw [ise h];rfl
theorem z0bq (l:List z4t):z8k (tq a l)=some (.inr (.inr (tq a l))):=by
 unfold z8k
 show (z0l a _>>=_)=_
 rw [ise h];rfl
theorem z08j (l:List z31):z7n (tq a l)=some (.inr (.inr (tq a l))):=by
 unfold z7n
 show (z0l a _>>=_)=_
 rw [ise h];rfl
theorem z0da (l:List ByteArray):QF z2z a l=some (a,l):=zj2 (z0bn h l)
theorem z0db (l:List z6c):QF z5w a l=some (a,l):=zj2 (z0bo h l)
theorem z0dc (l:List ByteArray):QF z5x a l=some (a,l):=zj2 (z0bp h l)
end
theorem eS {a:z01} (h:a.E≠0):(∀ w,z0a a w=some a)∧z0k a=some (a,nB)∧z2y a=some (a,0)∧(∀ l,QF z2z a l=some (a,l))∧(∀ l,QF z5w a l=some (a,l))∧(∀ l,QF z5x a l=some (a,l))∧(∀ d,z8d a d=some (a,[])):=⟨zjw h,z017 h,nume h,z0da h,z0db h,z0dc h,z08i h⟩
instance:Inhabited z6c:=⟨⟨0,nB,0⟩⟩
instance:Inhabited z3l:=⟨⟨nB,0,0,nB,nB,[]⟩⟩
instance:Inhabited z4t:=⟨⟨nB,[]⟩⟩
instance:Inhabited z31:=⟨⟨nB,[],[]⟩⟩
noncomputable def z01c (v1:z01 × ByteArray) (j1:Int):Option (z01 × z3l) :=
 if (decide (j1<0)) then (z3o v1.1 5>>=fun v4=>some (v4,(z3l.mk v1.2 j1 0 (ByteArray.mk #[]) (ByteArray.mk #[]) [])))
 else (z2y (z01.mk v1.1.L (IntKind.i64.wrap (v1.1.I+1)) v1.1.End v1.1.E v1.1.At)>>=fun v5=>z0a v5.1 (ByteArray.mk #[102,114,111,109])>>=fun v6=>z0k v6>>=fun v7=>z0a v7.1 (ByteArray.mk #[116,111])>>=fun v8=>z0k v8>>=fun v9=>z0a v9.1 (ByteArray.mk #[123])>>=fun v10 =>
  z0k v10>>=fun v11=>app 16 [] [v11.2]>>=fun v12=>QF z2z v11.1 v12>>=fun w=>z0a w.1 (ByteArray.mk #[125])>>=fun v16=>z0a v16 (ByteArray.mk #[59])>>=fun v17=>some (v17,(z3l.mk v1.2 j1 v5.2 v7.2 v9.2 w.2)))
theorem z046 (a:z01):z7a a=z0k a>>=fun v1=>iter (z49 v1) (0,(-1))>>=Sum.elim (fun _=>none) (z01c v1):=by
 unfold z01c
 simp only [← zwj];rfl
noncomputable def z047 (a:z01):Option (z01 × z4t):=z0k a>>=fun v6=>z0a v6.1 (ByteArray.mk #[123])>>=fun v7=>QF z5w v7 []>>=fun w=>z0a w.1 (ByteArray.mk #[125])>>=fun v14=>some (v14,(z4t.mk v6.2 w.2))
noncomputable def z048 (a:z01):Option (z01 × z31):=z0k a>>=fun v17=>z0a v17.1 (ByteArray.mk #[123])>>=fun v18=>QF z5x v18 []>>=fun w=>z8d w.1 0>>=fun v23=>z0a v23.1 (ByteArray.mk #[125])>>=fun v24=>some (v24,(z31.mk v17.2 w.2 v23.2))
section
variable {L:Int} {full ts:List Tok}
theorem z08k {t:ByteArray} (hs:Sf full ts) (hl:ts.length+1≤2000):TR L full Prod.fst (fun (v:List ByteArray) a=>(a,[t]++v)) 0 (fun _=>QF z2z (RS L full ts) [t]) (z9d (mTag L) (ts.length+1) ts):=by
 refine zpf znw (fun ts l ht hm=>?_) (fun ts o ht hm=>?_) (fun a l h=>z0bn h l) _ ts [t] hs (by simp;omega)
 ·unfold mTag at hm
  cases hs:z27 (ByteArray.mk #[44]) ts with
  | true=>rw [hs] at hm;cases hm
  | false =>
   unfold z2z
   show (z0l (RS L full ts) _>>=_)=_
   rw [is_R ht,hs];rfl
 ·unfold mTag at hm
  cases hs:z27 (ByteArray.mk #[44]) ts with
  | false=>rw [hs] at hm;cases hm
  | true =>
   rw [hs] at hm;injection hm with hm;subst hm
   refine ⟨z0k (RS L full ts.tail),za2 ht.tail,fun l hll=>?_⟩
   unfold z2z
   show (z0l (RS L full ts) _>>=_)=_
   rw [is_R ht,hs]
   simp only [Option.bind_eq_bind,Option.bind_some,if_true]
   have e:z01.mk (tq (RS L full ts) l).1 (IntKind.i64.wrap ((tq (RS L full ts) l).2.1+1)) (tq (RS L full ts) l).2.2.1 (tq (RS L full ts) l).2.2.2.1 (tq (RS L full ts) l).2.2.2.2.1=RS L full ts.tail:=zkr ht hs
   rw [e]
   congr 1;funext v
   show (app 16 l [v.2]).bind _=_
   rw [z6o (by simp;omega)];rfl
theorem z08l {H:Nat} (hl:Sf full ts):TR L full Prod.fst mkVr H (fun _=>z7a (RS L full ts)) (znu L ts):=by
 refine TR.eq (y:=fun _=>_) ?_ (fun _=>z046 _)
 unfold znu
 refine TR.bind (π':=Prod.fst) (mk':=mkVr) (za2 hl) (fun m r1 h1=>?_) (fun a c p hc he=>⟨(a.1,⟨a.2,-1,0,nB,nB,[]⟩),he,fun n=>.inl (by
  have h:a.1.E≠0:=z68 hc he
  rw [show iter (z49 a) (0,(-1))=_ from z0d8 (a:=a.1) h a.2]
  unfold z01c
  simp only [Option.bind_eq_bind,Option.bind_some,Sum.elim_inr,neg1,if_true,zuo h])⟩)
 have l1:=hl.suf (z1o h1).1
 have e:=z01b (v1:=(RS L full r1,m)) (see:=fun w=>z27 w r1) (fun w=>is_R l1 w) (fun w w' h h'=>zmf h h')
 rw [← zex] at e
 cases hs:z3p zoq r1 with
 | none =>
  rw [hs] at e
  refine TR.err (r:=(⟨full.map tokR,(RS L full r1).I,L,5,sAt L r1⟩,⟨m,-1,0,nB,nB,[]⟩)) (fun n=>?_) (by decide) ⟨rfl,rfl⟩
  rw [e]
  unfold z01c
  simp only [Option.bind_eq_bind,Option.bind_some,Sum.elim_inr,neg1,if_true,zhw l1]
 | some j =>
  rw [hs] at e
  obtain ⟨w,hw⟩:=zg0 hs
  have q1:decide (((j:Nat):Int)<0)=false:=by simp
  refine TR.eq (y:=fun _=>z2y (RS L full r1.tail)>>=fun v5=>z0a v5.1 (ByteArray.mk #[102,114,111,109])>>=fun v6=>z0k v6>>=fun v7=>z0a v7.1 (ByteArray.mk #[116,111])>>=fun v8=>z0k v8>>=fun v9=>z0a v9.1 (ByteArray.mk #[123])>>=fun v10 =>
   z0k v10>>=fun v11=>app 16 [] [v11.2]>>=fun v12=>QF z2z v11.1 v12>>=fun w=>z0a w.1 (ByteArray.mk #[125])>>=fun v16=>z0a v16 (ByteArray.mk #[59])>>=fun v17=>some (v17,(z3l.mk m (j:Int) v5.2 v7.2 v9.2 w.2))) ?_ (fun n=>by
   rw [e]
   unfold z01c
   simp only [Option.bind_eq_bind,Option.bind_some,Sum.elim_inr,q1,Bool.false_eq_true,if_false,zkr l1 hw])
  refine TR.bind (π':=Prod.fst) (mk':=mkVr) (zwi l1.tail) (fun z r2 h2=>?_) (fun r c p hc he=>z4u (by simp only [eS (a:=r.1) (z68 hc he),z2m,Option.bind_eq_bind,Option.bind_some];rfl) ⟨he.1,he.2⟩)
  have l2:=l1.tail.suf (zcz h2).1
  refine TR.bind (π':=Prod.fst) (mk':=mkVr) (z6m l2 _) (fun _ r3 h3=>?_) (fun r c p hc he=>z4u (by simp only [eS (a:=r) (z68 hc he),z2m,Option.bind_eq_bind,Option.bind_some];rfl) ⟨he.1,he.2⟩)
  have l3:=l2.suf (z0z h3).1
  refine TR.bind (π':=Prod.fst) (mk':=mkVr) (za2 l3) (fun a r4 h4=>?_) (fun r c p hc he=>z4u (by simp only [eS (a:=r.1) (z68 hc he),z2m,Option.bind_eq_bind,Option.bind_some];rfl) ⟨he.1,he.2⟩)
  have l4:=l3.suf (z1o h4).1
  refine TR.bind (π':=Prod.fst) (mk':=mkVr) (z6m l4 _) (fun _ r5 h5=>?_) (fun r c p hc he=>z4u (by simp only [eS (a:=r) (z68 hc he),z2m,Option.bind_eq_bind,Option.bind_some];rfl) ⟨he.1,he.2⟩)
  have l5:=l4.suf (z0z h5).1
  refine TR.bind (π':=Prod.fst) (mk':=mkVr) (za2 l5) (fun b r6 h6=>?_) (fun r c p hc he=>z4u (by simp only [eS (a:=r.1) (z68 hc he),z2m,Option.bind_eq_bind,Option.bind_some];rfl) ⟨he.1,he.2⟩)
  have l6:=l5.suf (z1o h6).1
  refine TR.bind (π':=Prod.fst) (mk':=mkVr) (z6m l6 _) (fun _ r7 h7=>?_) (fun r c p hc he=>z4u (by simp only [eS (a:=r) (z68 hc he),z2m,Option.bind_eq_bind,Option.bind_some];rfl) ⟨he.1,he.2⟩)
  have l7:=l6.suf (z0z h7).1
  refine TR.bind (π':=Prod.fst) (mk':=mkVr) (za2 l7) (fun t r8 h8=>?_) (fun r c p hc he=>z4u (by simp only [eS (a:=r.1) (z68 hc he),z2m,Option.bind_eq_bind,Option.bind_some];rfl) ⟨he.1,he.2⟩)
  have z8:=(z1o h8).2
  have z7:=l7.len
  have l8:=l7.suf (z1o h8).1
  refine TR.eq (y:=fun _=>QF z2z (RS L full r8) [t]>>=fun w=>z0a w.1 (ByteArray.mk #[125])>>=fun v15=>z0a v15 (ByteArray.mk #[59])>>=fun v16=>some (v16,(z3l.mk m (j:Int) z a b w.2))) ?_ (fun n=>rfl)
  refine TR.bind (π':=Prod.fst) (mk':=mkVr) ((z08k (t:=t) l8 (by omega)).mono (Nat.zero_le _)) (fun l r9 h9=>?_) (fun r c p hc he=>z4u (by simp only [eS (a:=r.1) (z68 hc he),z2m,Option.bind_eq_bind,Option.bind_some];rfl) ⟨he.1,he.2⟩)
  have l9:=l8.suf (z8u znw _ _ _ _ h9)
  refine TR.bind (π':=Prod.fst) (mk':=mkVr) (z6m l9 _) (fun _ r10 h10=>?_) (fun r c p hc he=>z4u (by simp only [eS (a:=r) (z68 hc he),z2m,Option.bind_eq_bind,Option.bind_some];rfl) ⟨he.1,he.2⟩)
  have l10:=l9.suf (z0z h10).1
  exact TR.bind (π':=Prod.fst) (mk':=mkVr) (z6m l10 _) (fun _ r11 h11=>TR.pure (fun n=>rfl)) (fun r c p hc he=>⟨(r,⟨m,(j:Int),z,a,b,[t]++l⟩),he,fun n=>.inl rfl⟩)
theorem z08m (hl:Sf full ts):TR L full Prod.fst mkVr 0 (fun _=>z2y (RS L full ts)>>=fun v4=>z0k v4.1>>=fun v5=>z2y v5.1>>=fun v6=>z0a v6.1 (ByteArray.mk #[59])>>=fun v7=>some (v7,z6c.mk v4.2 v5.2 v6.2)) (zqg L ts):=by
 unfold zqg
 refine TR.bind (π':=Prod.fst) (mk':=mkVr) (zwi hl) (fun a r1 h1=>?_) (fun r c p hc he=>z4u (by simp only [eS (a:=r.1) (z68 hc he),z2m,Option.bind_eq_bind,Option.bind_some];rfl) ⟨he.1,he.2⟩)
 have l1:=hl.suf (zcz h1).1
 refine TR.bind (π':=Prod.fst) (mk':=mkVr) (za2 l1) (fun t r2 h2=>?_) (fun r c p hc he=>z4u (by simp only [eS (a:=r.1) (z68 hc he),z2m,Option.bind_eq_bind,Option.bind_some];rfl) ⟨he.1,he.2⟩)
 have l2:=l1.suf (z1o h2).1
 refine TR.bind (π':=Prod.fst) (mk':=mkVr) (zwi l2) (fun b r3 h3=>?_) (fun r c p hc he=>z4u (by simp only [eS (a:=r.1) (z68 hc he),z2m,Option.bind_eq_bind,Option.bind_some];rfl) ⟨he.1,he.2⟩)
 have l3:=l2.suf (zcz h3).1
 exact TR.bind (π':=Prod.fst) (mk':=mkVr) (z6m l3 _) (fun _ r4 h4=>TR.pure (fun n=>rfl)) (fun r c p hc he=>⟨(r,⟨a,t,b⟩),he,fun n=>.inl rfl⟩)
theorem z049 (hl:Sf full ts):TR L full Prod.fst (fun (v:List z6c) a=>(a,[]++v)) 0 (fun _=>QF z5w (RS L full ts) []) (z9d (zor L) (ts.length+1) ts):=by
 refine zpf zjv (fun ts l ht hm=>?_) (fun ts o ht hm=>?_) (fun a l h=>z0bo h l) _ ts [] hl (by simpa using hl.len)
 ·unfold zor at hm
  cases hs:z27 (ByteArray.mk #[125]) ts with
  | false=>rw [hs] at hm;cases hm
  | true =>
   unfold z5w
   rw [if_pos (by rfl)]
   show ((z0l (RS L full ts) (ByteArray.mk #[125])>>=fun v5=>some (!v5))>>=_)=_
   rw [is_R ht,hs];rfl
 ·unfold zor at hm
  cases hs:z27 (ByteArray.mk #[125]) ts with
  | true=>rw [hs] at hm;cases hm
  | false =>
   rw [hs] at hm;injection hm with hm;subst hm
   refine ⟨_,z08m ht,fun l hll=>?_⟩
   unfold z5w
   rw [if_pos (by rfl)]
   show ((z0l (RS L full ts) (ByteArray.mk #[125])>>=fun v5=>some (!v5))>>=_)=_
   rw [is_R ht,hs]
   simp only [Option.bind_eq_bind,Option.bind_some,Bool.not_false,if_true,Option.bind_assoc]
   congr 1;funext v4
   congr 1;funext v5
   congr 1;funext v6
   congr 1;funext v7
   show (app 32 l [_]).bind _=_
   rw [z6o (by simp;omega)];rfl
theorem z08n (hl:Sf full ts):TR L full Prod.fst mkVr 0 (fun _=>z047 (RS L full ts)) (znv L ts):=by
 unfold znv z047
 refine TR.bind (π':=Prod.fst) (mk':=mkVr) (za2 hl) (fun m r1 h1=>?_) (fun r c p hc he=>z4u (by simp only [eS (a:=r.1) (z68 hc he),z2m,Option.bind_eq_bind,Option.bind_some];rfl) ⟨he.1,he.2⟩)
 have l1:=hl.suf (z1o h1).1
 refine TR.bind (π':=Prod.fst) (mk':=mkVr) (z6m l1 _) (fun _ r2 h2=>?_) (fun r c p hc he=>z4u (by simp only [eS (a:=r) (z68 hc he),z2m,Option.bind_eq_bind,Option.bind_some];rfl) ⟨he.1,he.2⟩)
 have l2:=l1.suf (z0z h2).1
 refine TR.bind (π':=Prod.fst) (mk':=mkVr) (z049 l2) (fun l r3 h3=>?_) (fun r c p hc he=>z4u (by simp only [eS (a:=r.1) (z68 hc he),z2m,Option.bind_eq_bind,Option.bind_some];rfl) ⟨he.1,he.2⟩)
 have l3:=l2.suf (z8u zjv _ _ _ _ h3)
 exact TR.bind (π':=Prod.fst) (mk':=mkVr) (z6m l3 _) (fun _ r4 h4=>TR.pure (fun n=>rfl)) (fun r c p hc he=>⟨(r,⟨m,[]++l⟩),he,fun n=>.inl rfl⟩)
theorem z08o (hl:Sf full ts):TR L full Prod.fst (fun (v:List ByteArray) a=>(a,[]++v)) 0 (fun _=>QF z5x (RS L full ts) []) (z9d (mVar L) (ts.length+1) ts):=by
 refine zpf zko (fun ts l ht hm=>?_) (fun ts o ht hm=>?_) (fun a l h=>z0bp h l) _ ts [] hl (by simpa using hl.len)
 ·unfold mVar at hm
  cases hs:z27 (ByteArray.mk #[118,97,114]) ts with
  | true=>rw [hs] at hm;cases hm
  | false =>
   unfold z5x
   show (z0l (RS L full ts) _>>=_)=_
   rw [is_R ht,hs];rfl
 ·unfold mVar at hm
  cases hs:z27 (ByteArray.mk #[118,97,114]) ts with
  | false=>rw [hs] at hm;cases hm
  | true =>
   rw [hs] at hm;injection hm with hm;subst hm
   refine ⟨z0k (RS L full ts.tail)>>=fun v4=>z0a v4.1 (ByteArray.mk #[59])>>=fun v6=>some (v6,v4.2),?_,fun l hll=>?_⟩
   ·refine TR.bind (π':=Prod.fst) (mk':=mkVr) (za2 ht.tail) (fun m r1 h1=>?_) (fun r c p hc he=>z4u (by simp only [eS (a:=r.1) (z68 hc he),z2m,Option.bind_eq_bind,Option.bind_some]) ⟨he.1,he.2⟩)
    exact TR.bind (π':=Prod.fst) (mk':=mkVr) (z6m (ht.tail.suf (z1o h1).1) _) (fun _ r2 h2=>TR.pure (fun n=>rfl)) (fun r c p hc he=>⟨(r,m),he,fun n=>.inl rfl⟩)
   ·unfold z5x
    show (z0l (RS L full ts) _>>=_)=_
    rw [is_R ht,hs]
    have e:z01.mk (tq (RS L full ts) l).1 (IntKind.i64.wrap ((tq (RS L full ts) l).2.1+1)) (tq (RS L full ts) l).2.2.1 (tq (RS L full ts) l).2.2.2.1 (tq (RS L full ts) l).2.2.2.2.1=RS L full ts.tail:=zkr ht hs
    simp only [Option.bind_eq_bind,Option.bind_some,if_true,Option.bind_assoc,e]
    congr 1;funext v
    show (app 16 l [v.2]).bind _=_
    rw [z6o (by simp;omega)];rfl
theorem z08p {H:Nat} (hl:Sf full ts):TR L full Prod.fst mkVr H (fun _=>z8d (RS L full ts) 0) (zm5 L ts):=by
 have h:=(pu L full (3*ts.length+2)).stmts 0 ts [] (by omega) hl (by simpa using hl.len)
 have h:=TR.up (F:=fun n=>z2j n (RS L full ts) 0) rfl (fun n=>rfl) h
 have h:=h.unf.mono (Nat.zero_le H)
 intro hne
 obtain ⟨r,g,s⟩:=h hne
 refine ⟨r,?_,s⟩
 unfold zm5
 simpa using g
theorem z08q (hl:Sf full ts):TR L full Prod.fst mkVr 0 (fun _=>z048 (RS L full ts)) (zli L ts):=by
 unfold zli z048
 refine TR.bind (π':=Prod.fst) (mk':=mkVr) (za2 hl) (fun m r1 h1=>?_) (fun r c p hc he=>z4u (by simp only [eS (a:=r.1) (z68 hc he),z2m,Option.bind_eq_bind,Option.bind_some];rfl) ⟨he.1,he.2⟩)
 have l1:=hl.suf (z1o h1).1
 refine TR.bind (π':=Prod.fst) (mk':=mkVr) (z6m l1 _) (fun _ r2 h2=>?_) (fun r c p hc he=>z4u (by simp only [eS (a:=r) (z68 hc he),z2m,Option.bind_eq_bind,Option.bind_some];rfl) ⟨he.1,he.2⟩)
 have l2:=l1.suf (z0z h2).1
 refine TR.bind (π':=Prod.fst) (mk':=mkVr) (z08o l2) (fun l r3 h3=>?_) (fun r c p hc he=>z4u (by simp only [eS (a:=r.1) (z68 hc he),z2m,Option.bind_eq_bind,Option.bind_some];rfl) ⟨he.1,he.2⟩)
 have l3:=l2.suf (z8u zko _ _ _ _ h3)
 refine TR.bind (π':=Prod.fst) (mk':=mkVr) (z08p l3) (fun b r4 h4=>?_) (fun r c p hc he=>z4u (by simp only [eS (a:=r.1) (z68 hc he),z2m,Option.bind_eq_bind,Option.bind_some];rfl) ⟨he.1,he.2⟩)
 have l4:=l3.suf (zqh h4)
 exact TR.bind (π':=Prod.fst) (mk':=mkVr) (z6m l4 _) (fun _ r5 h5=>TR.pure (fun n=>rfl)) (fun r c p hc he=>⟨(r,⟨m,[]++l,b⟩),he,fun n=>.inl rfl⟩)
theorem z04a (hl:Sf full ts):TR L full Prod.fst (fun (v:List z3l) a=>(a,[]++v)) 0 (fun _=>QF z8j (RS L full ts) []) (z9d (zlj L) (ts.length+1) ts):=by
 refine zpf zhs (fun ts l ht hm=>?_) (fun ts o ht hm=>?_) (fun a l h=>z0d9 h l) _ ts [] hl (by simpa using hl.len)
 ·unfold zlj at hm
  cases hs:z27 (ByteArray.mk #[99,104,97,110]) ts with
  | true=>rw [hs] at hm;cases hm
  | false =>
   unfold z8j
   show (z0l (RS L full ts) _>>=_)=_
   rw [is_R ht,hs];rfl
 ·unfold zlj at hm
  cases hs:z27 (ByteArray.mk #[99,104,97,110]) ts with
  | false=>rw [hs] at hm;cases hm
  | true =>
   rw [hs] at hm;injection hm with hm;subst hm
   refine ⟨z7a (RS L full ts.tail),z08l ht.tail,fun l hll=>?_⟩
   unfold z8j
   show (z0l (RS L full ts) _>>=_)=_
   rw [is_R ht,hs]
   have e:z01.mk (tq (RS L full ts) l).1 (IntKind.i64.wrap ((tq (RS L full ts) l).2.1+1)) (tq (RS L full ts) l).2.2.1 (tq (RS L full ts) l).2.2.2.1 (tq (RS L full ts) l).2.2.2.2.1=RS L full ts.tail:=zkr ht hs
   simp only [Option.bind_eq_bind,Option.bind_some,if_true,e]
   congr 1;funext v
   show (app 88 l [v.2]).bind _=_
   rw [z6o (by simp;omega)];rfl
theorem z04b (hl:Sf full ts):TR L full Prod.fst (fun (v:List z4t) a=>(a,[]++v)) 0 (fun _=>QF z8k (RS L full ts) []) (z9d (zlk L) (ts.length+1) ts):=by
 refine zpf zht (fun ts l ht hm=>?_) (fun ts o ht hm=>?_) (fun a l h=>z0bq h l) _ ts [] hl (by simpa using hl.len)
 ·unfold zlk at hm
  cases hs:z27 (ByteArray.mk #[114,117,108,101]) ts with
  | true=>rw [hs] at hm;cases hm
  | false =>
   unfold z8k
   show (z0l (RS L full ts) _>>=_)=_
   rw [is_R ht,hs];rfl
 ·unfold zlk at hm
  cases hs:z27 (ByteArray.mk #[114,117,108,101]) ts with
  | false=>rw [hs] at hm;cases hm
  | true =>
   rw [hs] at hm;injection hm with hm;subst hm
   refine ⟨z047 (RS L full ts.tail),z08n ht.tail,fun l hll=>?_⟩
   unfold z8k
   show (z0l (RS L full ts) _>>=_)=_
   rw [is_R ht,hs]
   have e:z01.mk (tq (RS L full ts) l).1 (IntKind.i64.wrap ((tq (RS L full ts) l).2.1+1)) (tq (RS L full ts) l).2.2.1 (tq (RS L full ts) l).2.2.2.1 (tq (RS L full ts) l).2.2.2.2.1=RS L full ts.tail:=zkr ht hs
   simp only [Option.bind_eq_bind,Option.bind_some,if_true,e]
   unfold z047
   simp only [Option.bind_eq_bind,Option.bind_some,Option.bind_assoc]
   congr 1;funext v6
   congr 1;funext v7
   refine Eq.trans ?_ (zwj (body:=z5w) (a:=v7) (l:=[]) _)
   show (iter z5w (tq v7 [])).bind _=(iter z5w (tq v7 [])).bind _
   congr 1;funext o
   cases o with
   | inl _=>rfl
   | inr j3 =>
    simp only [Sum.elim_inr]
    congr 1;funext v14
    show (app 40 l [_]).bind _=_
    rw [z6o (by simp;omega)];rfl
theorem z04c (hl:Sf full ts):TR L full Prod.fst (fun (v:List z31) a=>(a,[]++v)) 0 (fun _=>QF z7n (RS L full ts) []) (z9d (zio L) (ts.length+1) ts):=by
 refine zpf znq (fun ts l ht hm=>?_) (fun ts o ht hm=>?_) (fun a l h=>z08j h l) _ ts [] hl (by simpa using hl.len)
 ·unfold zio at hm
  cases hs:z27 (ByteArray.mk #[112,114,111,99]) ts with
  | true=>rw [hs] at hm;cases hm
  | false =>
   unfold z7n
   show (z0l (RS L full ts) _>>=_)=_
   rw [is_R ht,hs];rfl
 ·unfold zio at hm
  cases hs:z27 (ByteArray.mk #[112,114,111,99]) ts with
  | false=>rw [hs] at hm;cases hm
  | true =>
   rw [hs] at hm;injection hm with hm;subst hm
   refine ⟨z048 (RS L full ts.tail),z08q ht.tail,fun l hll=>?_⟩
   unfold z7n
   show (z0l (RS L full ts) _>>=_)=_
   rw [is_R ht,hs]
   have e:z01.mk (tq (RS L full ts) l).1 (IntKind.i64.wrap ((tq (RS L full ts) l).2.1+1)) (tq (RS L full ts) l).2.2.1 (tq (RS L full ts) l).2.2.2.1 (tq (RS L full ts) l).2.2.2.2.1=RS L full ts.tail:=zkr ht hs
   simp only [Option.bind_eq_bind,Option.bind_some,if_true,e]
   unfold z048
   simp only [Option.bind_eq_bind,Option.bind_some,Option.bind_assoc]
   congr 1;funext v6
   congr 1;funext v7
   refine Eq.trans ?_ (zwj (body:=z5x) (a:=v7) (l:=[]) _)
   show (iter z5x (tq v7 [])).bind _=(iter z5x (tq v7 [])).bind _
   congr 1;funext o
   cases o with
   | inl _=>rfl
   | inr j3 =>
    simp only [Sum.elim_inr]
    congr 1;funext v23
    congr 1;funext v24
    show (app 64 l [_]).bind _=_
    rw [z6o (by simp;omega)];rfl
end
noncomputable def rAll (a:z01):Option (z01 × z0i):=QF z8j a []>>=fun c=>QF z8k c.1 []>>=fun r=>QF z7n r.1 []>>=fun p=>some (p.1,⟨c.2,r.2,p.2⟩)
noncomputable def rFin (v:z01 × z0i):Option (z0i × Int × Int) :=
 if (decide (v.1.I<(v.1.L.length:Int))) then (z3o v.1 5>>=fun w=>if (w.E != 0) then some ((z0i.mk [] [] []),w.At,w.E) else some (v.2,0,0))
 else (if (v.1.E != 0) then some ((z0i.mk [] [] []),v.1.At,v.1.E) else some (v.2,0,0))
theorem zsj (s:ByteArray):zfm s=zh9 s>>=fun v1=>if (v1.2.2 != 0) then some ((z0i.mk [] [] []),v1.2.1,v1.2.2) else rAll ⟨v1.1,0,(s.size:Int),0,0⟩>>=rFin:=by
 unfold rAll
 simp only [Option.bind_eq_bind,Option.bind_assoc,Option.bind_some]
 simp only [← Option.bind_eq_bind,← zwj]
 rfl
section
variable {L:Int} {full ts:List Tok}
theorem z0br (hl:Sf full ts):TR L full Prod.fst mkVr 0 (fun _=>rAll (RS L full ts)) (sSys L ts):=by
 unfold sSys rAll
 refine TR.bind (π':=Prod.fst) (mk':=mkVr) (z04a hl) (fun c r1 h1=>?_) (fun r c p hc he=>⟨(r.1,⟨r.2,[],[]⟩),he,fun n=>.inl (by rw [zj2 (z0bq (z68 hc he) [])];show (QF z7n r.1 []>>=_)=_;rw [zj2 (z08j (z68 hc he) [])];rfl)⟩)
 have l1:=hl.suf (z8u zhs _ _ _ _ h1)
 refine TR.bind (π':=Prod.fst) (mk':=mkVr) (z04b l1) (fun d r2 h2=>?_) (fun r cc p hc he=>⟨(r.1,⟨c,r.2,[]⟩),he,fun n=>.inl (by rw [zj2 (z08j (z68 hc he) [])];rfl)⟩)
 have l2:=l1.suf (z8u zht _ _ _ _ h2)
 exact TR.bind (π':=Prod.fst) (mk':=mkVr) (z04c l2) (fun d r2 h2=>TR.pure (fun n=>rfl)) (fun r cc p hc he=>⟨(r.1,⟨c,d,r.2⟩),he,fun n=>.inl rfl⟩)
theorem z08r {s:ByteArray} {p:Int} (hs:zh9 s=some (ts.map tokR,p,0)) (hl:ts.length≤2000):zfm s=some (match sAll (s.size:Int) ts with
  | .ok v _=>(v,0,0)
  | .er c p=>(⟨[],[],[]⟩,p,c)
  | .out=>(⟨[],[],[]⟩,0,0)):=by
 rw [zsj,hs]
 have hsf:Sf ts ts:=⟨List.suffix_refl _,hl⟩
 have e0:(⟨ts.map tokR,0,(s.size:Int),0,0⟩:z01)=RS (s.size:Int) ts ts:=by unfold RS;simp
 show (rAll ⟨ts.map tokR,0,(s.size:Int),0,0⟩>>=rFin)=_
 rw [e0]
 obtain ⟨r,g,q⟩:=z0br (L:=(s.size:Int)) hsf zwg
 have q:rAll (RS (s.size:Int) ts ts)=some r:=by
  rcases q 0 with q|⟨_,q⟩
  ·exact q
  ·omega
 rw [q]
 show rFin r=_
 unfold sAll
 cases hv:sSys (s.size:Int) ts with
 | ok v rest =>
  have hrest:Sf ts rest:=hsf.suf (by
   unfold sSys at hv
   obtain ⟨_,r1,h1,hv⟩:=bind_ok hv
   obtain ⟨_,r2,h2,hv⟩:=bind_ok hv
   obtain ⟨_,r3,h3,hv⟩:=bind_ok hv
   injection hv with _ hv;subst hv
   exact (z8u znq _ _ _ _ h3).trans ((z8u zht _ _ _ _ h2).trans (z8u zhs _ _ _ _ h1)))
  rw [hv] at g
  have g:r=(RS (s.size:Int) ts rest,v):=g
  subst g
  unfold rFin
  rw [znx hrest]
  cases rest with
  | nil=>rfl
  | cons t rest =>
   rw [if_pos (by simp),zhw hrest];rfl
 | er c p =>
  rw [hv] at g
  obtain ⟨hc,he⟩:=g
  have h:r.1.E≠0:=z68 hc he
  have h1:(r.1.E != 0)=true:=by simpa using h
  unfold rFin
  rw [zuo h]
  simp only [Option.bind_eq_bind,Option.bind_some,h1,if_true,ite_self]
  rw [he.1,he.2];rfl
 | out=>exact absurd hv zwg
end
structure SzX (L:Int) (f:Nat):Prop where
 fac:∀ d ts v r,z63 L f d ts=.ok v r→szE (cE v)+r.length≤ts.length
 mul:∀ d e ts v r,sMul L f d e ts=.ok v r→szE (cE v)+r.length≤szE (cE e)+ts.length
 term:∀ d ts v r,zdh L f d ts=.ok v r→szE (cE v)+r.length≤ts.length
 add:∀ d e ts v r,sAdd L f d e ts=.ok v r→szE (cE v)+r.length≤szE (cE e)+ts.length
 exp:∀ d ts v r,zdi L f d ts=.ok v r→szE (cE v)+r.length≤ts.length
theorem szX (L:Int):∀ f,SzX L f:=by
 intro f
 induction f with
 | zero=>exact ⟨fun d ts v r h=>by simp [z63] at h,fun d e ts v r h=>by simp [sMul] at h,fun d ts v r h=>by simp [zdh] at h,fun d e ts v r h=>by simp [sAdd] at h,fun d ts v r h=>by simp [zdi] at h⟩
 | succ f ih =>
  refine ⟨fun d ts v r h=>?_,fun d e ts v r h=>?_,fun d ts v r h=>?_,fun d e ts v r h=>?_,fun d ts v r h=>?_⟩
  ·simp only [z63] at h
   split at h
   ·rename_i hs
    have:=z4a hs
    split at h
    ·cases h
    ·obtain ⟨w,s,h1,h2⟩:=bind_ok h
     injection h2 with h3 h2;subst h2;subst h3
     have:=ih.fac _ _ _ _ h1
     simp only [cE,cEs,szE,szEs];omega
   ·split at h
    ·rename_i hs
     have:=z4a hs
     split at h
     ·cases h
     ·obtain ⟨w,s,h1,h2⟩:=bind_ok h
      obtain ⟨w',s',h3,h4⟩:=bind_ok h2
      injection h4 with h5 h4;subst h4;subst h5
      have:=ih.exp _ _ _ _ h1
      have:=(z0z h3).2
      omega
    ·split at h
     ·obtain ⟨w,s,h1,h2⟩:=bind_ok h
      injection h2 with h3 h2;subst h2;subst h3
      have:=(zcz h1).2
      simp only [cE,cEs,szE,szEs];omega
     ·obtain ⟨w,s,h1,h2⟩:=bind_ok h
      injection h2 with h3 h2;subst h2;subst h3
      have:=(z1o h1).2
      simp only [cE,cEs,szE,szEs];omega
  ·simp only [sMul] at h
   split at h
   ·injection h with h1 h;subst h;subst h1;omega
   ·rename_i j hj
    have:=(z7k hj).1
    obtain ⟨w,s,h1,h2⟩:=bind_ok h
    have a1:=ih.fac _ _ _ _ h1
    have a2:=ih.mul _ _ _ _ _ h2
    simp only [cE,cEs,szE,szEs] at a2
    omega
  ·simp only [zdh] at h
   obtain ⟨w,s,h1,h2⟩:=bind_ok h
   have a1:=ih.fac _ _ _ _ h1
   have a2:=ih.mul _ _ _ _ _ h2
   omega
  ·simp only [sAdd] at h
   split at h
   ·injection h with h1 h;subst h;subst h1;omega
   ·rename_i j hj
    have:=(z7k hj).1
    obtain ⟨w,s,h1,h2⟩:=bind_ok h
    have a1:=ih.term _ _ _ _ h1
    have a2:=ih.add _ _ _ _ _ h2
    simp only [cE,cEs,szE,szEs] at a2
    omega
  ·simp only [zdi] at h
   obtain ⟨w,s,h1,h2⟩:=bind_ok h
   have a1:=ih.term _ _ _ _ h1
   have a2:=ih.add _ _ _ _ _ h2
   omega
section
variable {L:Int} {ts r:List Tok}
theorem z04d {v:z04} (h:eX L ts=.ok v r):szE (cE v)+r.length≤ts.length:=(szX L _).exp _ _ _ _ h
theorem zur:szE (cE zE)=1:=by simp [zE,cE,cEs,szE,szEs]
theorem z04e:szC (cC zC)=3:=by simp [zC,cC,szC,zur]
theorem zus {v:z1k} (h:zll L ts=.ok v r):szC (cC v)+r.length≤ts.length:=by
 unfold zll at h
 obtain ⟨_,r1,h1,h⟩:=bind_ok h
 obtain ⟨l,r2,h2,h⟩:=bind_ok h
 split at h
 ·cases h
 rename_i j hj
 have:=(z7k hj).1
 obtain ⟨x,r3,h3,h⟩:=bind_ok h
 obtain ⟨_,r4,h4,h⟩:=bind_ok h
 injection h with h0 h;subst h;subst h0
 have q1:=(z0z h1).2
 have q2:=z04d h2
 have q3:=z04d h3
 have q4:=(z0z h4).2
 simp only [cC,szC];omega
theorem z08s {v:z03} (h:zop L ts=.ok v r):szS (cS v)+10*r.length≤10*ts.length:=by
 unfold zop at h
 obtain ⟨_,r1,h1,h⟩:=bind_ok h
 obtain ⟨_,r2,h2,h⟩:=bind_ok h
 obtain ⟨_,r3,h3,h⟩:=bind_ok h
 obtain ⟨_,r4,h4,h⟩:=bind_ok h
 obtain ⟨_,r5,h5,h⟩:=bind_ok h
 obtain ⟨_,r6,h6,h⟩:=bind_ok h
 obtain ⟨_,r7,h7,h⟩:=bind_ok h
 injection h with h0 h;subst h;subst h0
 have q1:=(z1o h1).2
 have q2:=(z0z h2).2
 have q3:=(z1o h3).2
 have q4:=(z0z h4).2
 have q5:=z04d h5
 have q6:=(z0z h6).2
 have q7:=(z0z h7).2
 simp only [cS,szS,cL,szL,cA,szA,z04e];omega
theorem z01d {v:z03} (h:zfg L ts=.ok v r):szS (cS v)+10*r.length≤10*ts.length:=by
 unfold zfg at h
 obtain ⟨_,r1,h1,h⟩:=bind_ok h
 obtain ⟨_,r2,h2,h⟩:=bind_ok h
 injection h with h0 h;subst h;subst h0
 have q1:=zus h1
 have q3:=(zax h1).2
 have q2:=(z0z h2).2
 simp only [cS,szS,cL,szL,cA,szA,zur];omega
theorem z04f {v:z03} (h:zj0 L ts=.ok v r):szS (cS v)+10*r.length≤10*ts.length:=by
 unfold zj0 at h
 obtain ⟨_,r1,h1,h⟩:=bind_ok h
 obtain ⟨_,r2,h2,h⟩:=bind_ok h
 injection h with h0 h;subst h;subst h0
 have q1:=(z1o h1).2
 have q2:=(z0z h2).2
 simp only [cS,szS,cL,szL,cA,szA,zur,z04e];omega
theorem z01e {v:z03} (h:zdp L ts=.ok v r):szS (cS v)+10*r.length≤10*ts.length:=by
 unfold zdp at h
 obtain ⟨_,r1,h1,h⟩:=bind_ok h
 obtain ⟨_,r2,h2,h⟩:=bind_ok h
 obtain ⟨_,r3,h3,h⟩:=bind_ok h
 obtain ⟨_,r4,h4,h⟩:=bind_ok h
 injection h with h0 h;subst h;subst h0
 have q1:=(z1o h1).2
 have q2:=(z0z h2).2
 have q3:=z04d h3
 have q4:=(z0z h4).2
 simp only [cS,szS,cL,szL,cA,szA,z04e];omega
end
structure SzS (L:Int) (f:Nat):Prop where
 stmts:∀ i ts v r,z8q L f i ts=.ok v r→szL (cL v)+10*r.length≤10*ts.length+1
 stmt:∀ i ts v r,zc9 L f i ts=some (.ok v r)→szS (cS v)+10*r.length≤10*ts.length
 arm:∀ i ts v r,sArm L f i ts=.ok v r→2+szL (cL v.Body)+10*r.length≤10*ts.length
 arms:∀ i ts v r,zfe L f i ts=.ok v r→szA (cA v)+10*r.length≤10*ts.length+1
 block:∀ i ts v r,z9y L f i ts=.ok v r→szL (cL v)+10*r.length+9≤10*ts.length
theorem z01f (x:z2k) (l:List z2k):szA (cA (x::l))=2+szL (cL x.Body)+szA (cA l):=by cases x;rfl
theorem szS_ (L:Int):∀ f,SzS L f:=by
 intro f
 induction f with
 | zero=>exact ⟨fun i ts v r h=>by simp [z8q] at h,fun i ts v r h=>by simp [zc9] at h,fun i ts v r h=>by simp [sArm] at h,fun i ts v r h=>by simp [zfe] at h,fun i ts v r h=>by simp [z9y] at h⟩
 | succ f ih =>
  refine ⟨fun i ts v r h=>?_,fun i ts v r h=>?_,fun i ts v r h=>?_,fun i ts v r h=>?_,fun i ts v r h=>?_⟩
  ·simp only [z8q] at h
   split at h
   ·injection h with h1 h;subst h;subst h1;simp only [cL,szL];omega
   ·rename_i o ho
    obtain ⟨s,r1,h1,h0⟩:=bind_ok h
    obtain ⟨l,r2,h2,h3⟩:=bind_ok h0
    injection h3 with h4 h3;subst h3;subst h4;subst h1
    have a1:=ih.stmt _ _ _ _ ho
    have a2:=ih.stmts _ _ _ _ h2
    simp only [cL,szL];omega
  ·simp only [zc9] at h
   split at h
   ·rename_i hs
    have:=z4a hs
    injection h with h
    obtain ⟨c,r1,h1,h⟩:=bind_ok h
    obtain ⟨b,r2,h2,h⟩:=bind_ok h
    have a1:=zus h1
    have a2:=ih.block _ _ _ _ h2
    split at h
    ·rename_i he
     have:=z4a he
     obtain ⟨l,r3,h3,h⟩:=bind_ok h
     injection h with h0 h;subst h;subst h0
     have a3:=ih.block _ _ _ _ h3
     simp only [cS,szS,cL,szL,cA,szA,zur];omega
    ·injection h with h0 h;subst h;subst h0
     simp only [cS,szS,cL,szL,cA,szA,zur];omega
   split at h
   ·rename_i hs
    have:=z4a hs
    injection h with h
    obtain ⟨c,r1,h1,h⟩:=bind_ok h
    obtain ⟨b,r2,h2,h⟩:=bind_ok h
    have a1:=zus h1
    have a2:=ih.block _ _ _ _ h2
    injection h with h0 h;subst h;subst h0
    simp only [cS,szS,cL,szL,cA,szA,zur];omega
   split at h
   ·rename_i hs
    have:=z4a hs
    injection h with h
    have:=z08s h
    omega
   split at h
   ·rename_i hs
    have:=z4a hs
    injection h with h
    obtain ⟨n,r1,h1,h⟩:=bind_ok h
    obtain ⟨_,r2,h2,h⟩:=bind_ok h
    obtain ⟨a,r3,h3,h⟩:=bind_ok h
    obtain ⟨l,r4,h4,h⟩:=bind_ok h
    obtain ⟨_,r5,h5,h⟩:=bind_ok h
    injection h with h0 h;subst h;subst h0
    have q1:=(z1o h1).2
    have q2:=(z0z h2).2
    have q3:=ih.arm _ _ _ _ h3
    have q4:=ih.arms _ _ _ _ h4
    have q5:=(z0z h5).2
    simp only [cS,szS,cL,szL,z01f,zur,z04e];omega
   split at h
   ·rename_i hs
    have:=z4a hs
    injection h with h
    have:=z01d h
    omega
   split at h
   ·rename_i hs
    have:=z4a hs
    injection h with h
    have:=z04f h
    omega
   split at h
   ·injection h with h
    exact z01e h
   ·cases h
  ·simp only [sArm] at h
   obtain ⟨n,r1,h1,h⟩:=bind_ok h
   obtain ⟨_,r2,h2,h⟩:=bind_ok h
   obtain ⟨a,r3,h3,h⟩:=bind_ok h
   obtain ⟨_,r4,h4,h⟩:=bind_ok h
   obtain ⟨b,r5,h5,h⟩:=bind_ok h
   injection h with h0 h;subst h;subst h0
   have q1:=(z1o h1).2
   have q2:=(z0z h2).2
   have q3:=(z1o h3).2
   have q4:=(z0z h4).2
   have q5:=ih.block _ _ _ _ h5
   simp only [z2k.Body];omega
  ·simp only [zfe] at h
   split at h
   ·injection h with h1 h;subst h;subst h1;simp only [cA,szA];omega
   ·obtain ⟨s,r1,h1,h⟩:=bind_ok h
    obtain ⟨l,r2,h2,h⟩:=bind_ok h
    injection h with h0 h;subst h;subst h0
    have a1:=ih.arm _ _ _ _ h1
    have a2:=ih.arms _ _ _ _ h2
    rw [z01f];omega
  ·simp only [z9y] at h
   split at h
   ·cases h
   ·obtain ⟨_,r1,h1,h⟩:=bind_ok h
    obtain ⟨b,r2,h2,h⟩:=bind_ok h
    obtain ⟨_,r3,h3,h⟩:=bind_ok h
    injection h with h0 h;subst h;subst h0
    have q1:=(z0z h1).2
    have q2:=ih.stmts _ _ _ _ h2
    have q3:=(z0z h3).2
    omega
theorem zut {α β:Type} {more:List Tok→Option (Rs α)} {cv:α→β} {c:β→Nat} (h:∀ ts v r,more ts=some (.ok v r)→c (cv v)+10*r.length≤10*ts.length) :
  ∀ f ts v r,z9d more f ts=.ok v r→sumN c (v.map cv)+10*r.length≤10*ts.length:=by
 intro f
 induction f with
 | zero=>intro ts v r h;cases h
 | succ f ih =>
  intro ts v r hh
  simp only [z9d] at hh
  split at hh
  ·injection hh with h1 hh;subst hh;subst h1;simp [sumN]
  ·rename_i o ho
   obtain ⟨s,r1,h1,h0⟩:=bind_ok hh
   obtain ⟨l,r2,h2,h3⟩:=bind_ok h0
   injection h3 with h4 h3;subst h3;subst h4;subst h1
   have a1:=h _ _ _ ho
   have a2:=ih _ _ _ h2
   simp only [List.map_cons,sumN];omega
theorem zqj {α:Type} {more:List Tok→Option (Rs α)} (m:More more):∀ f ts v r,z9d more f ts=.ok v r→v.length+r.length≤ts.length:=by
 intro f
 induction f with
 | zero=>intro ts v r h;cases h
 | succ f ih =>
  intro ts v r hh
  simp only [z9d] at hh
  split at hh
  ·injection hh with h1 hh;subst hh;subst h1;simp
  ·rename_i o ho
   obtain ⟨s,r1,h1,h0⟩:=bind_ok hh
   obtain ⟨l,r2,h2,h3⟩:=bind_ok h0
   injection h3 with h4 h3;subst h3;subst h4;subst h1
   have a1:=(m.suf _ _ _ ho).2
   have a2:=ih _ _ _ h2
   simp only [List.length_cons];omega
section
variable {L:Int} {ts r:List Tok}
theorem z08t {v:z3l} (h:znu L ts=.ok v r):szCh (cCh v)+10*r.length≤10*ts.length:=by
 unfold znu at h
 obtain ⟨_,r1,h1,h⟩:=bind_ok h
 split at h
 ·cases h
 rename_i j hj
 have:=(z7k hj).1
 obtain ⟨_,r2,h2,h⟩:=bind_ok h
 obtain ⟨_,r3,h3,h⟩:=bind_ok h
 obtain ⟨_,r4,h4,h⟩:=bind_ok h
 obtain ⟨_,r5,h5,h⟩:=bind_ok h
 obtain ⟨_,r6,h6,h⟩:=bind_ok h
 obtain ⟨_,r7,h7,h⟩:=bind_ok h
 obtain ⟨_,r8,h8,h⟩:=bind_ok h
 obtain ⟨_,r9,h9,h⟩:=bind_ok h
 obtain ⟨_,r10,h10,h⟩:=bind_ok h
 obtain ⟨_,r11,h11,h⟩:=bind_ok h
 injection h with h0 h;subst h;subst h0
 have q1:=(z1o h1).2
 have q2:=(zcz h2).2
 have q3:=(z0z h3).2
 have q4:=(z1o h4).2
 have q5:=(z0z h5).2
 have q6:=(z1o h6).2
 have q7:=(z0z h7).2
 have q8:=(z1o h8).2
 have q9:=zqj znw _ _ _ _ h9
 have q10:=(z0z h10).2
 have q11:=(z0z h11).2
 simp only [cCh,szCh,List.length_cons];omega
theorem z08u {v:z4t} (h:znv L ts=.ok v r):szR (cRu v)+10*r.length≤10*ts.length:=by
 unfold znv at h
 obtain ⟨_,r1,h1,h⟩:=bind_ok h
 obtain ⟨_,r2,h2,h⟩:=bind_ok h
 obtain ⟨_,r3,h3,h⟩:=bind_ok h
 obtain ⟨_,r4,h4,h⟩:=bind_ok h
 injection h with h0 h;subst h;subst h0
 have q1:=(z1o h1).2
 have q2:=(z0z h2).2
 have q3:=zqj zjv _ _ _ _ h3
 have q4:=(z0z h4).2
 simp only [cRu,szR,List.length_map];omega
theorem z08v {v:z31} (h:zli L ts=.ok v r):szP (cPr v)+10*r.length≤10*ts.length:=by
 unfold zli at h
 obtain ⟨_,r1,h1,h⟩:=bind_ok h
 obtain ⟨_,r2,h2,h⟩:=bind_ok h
 obtain ⟨_,r3,h3,h⟩:=bind_ok h
 obtain ⟨_,r4,h4,h⟩:=bind_ok h
 obtain ⟨_,r5,h5,h⟩:=bind_ok h
 injection h with h0 h;subst h;subst h0
 have q1:=(z1o h1).2
 have q2:=(z0z h2).2
 have q3:=zqj zko _ _ _ _ h3
 have q4:=(szS_ L _).stmts _ _ _ _ h4
 have q5:=(z0z h5).2
 simp only [cPr,szP];omega
theorem z0bs {v:z0i} (h:sSys L ts=.ok v r):zba (cSys v)≤10*ts.length:=by
 unfold sSys at h
 obtain ⟨c,r1,h1,h⟩:=bind_ok h
 obtain ⟨d,r2,h2,h⟩:=bind_ok h
 obtain ⟨p,r3,h3,h⟩:=bind_ok h
 injection h with h0 h;subst h;subst h0
 have q1:=zut (cv:=cCh) (c:=szCh) (fun ts v r hm=>by
  unfold zlj at hm;split at hm
  ·rename_i hs;have:=z4a hs;injection hm with hm;have:=z08t hm;omega
  ·cases hm) _ _ _ _ h1
 have q2:=zut (cv:=cRu) (c:=szR) (fun ts v r hm=>by
  unfold zlk at hm;split at hm
  ·rename_i hs;have:=z4a hs;injection hm with hm;have:=z08u hm;omega
  ·cases hm) _ _ _ _ h2
 have q3:=zut (cv:=cPr) (c:=szP) (fun ts v r hm=>by
  unfold zio at hm;split at hm
  ·rename_i hs;have:=z4a hs;injection hm with hm;have:=z08v hm;omega
  ·cases hm) _ _ _ _ h3
 simp only [cSys,zba];omega
theorem z0bt {v:z0i} (h:sAll L ts=.ok v r):zba (cSys v)≤10*ts.length:=by
 unfold sAll at h
 obtain ⟨s,r1,h1,h⟩:=bind_ok h
 split at h
 ·injection h with h0 h;subst h0;exact z0bs h1
 ·cases h
end
def emp:z0i:=⟨[],[],[]⟩
def fin (L:Int) (z:List Tok × Int × Int):z0i × Int × Int:=if z.2.2 != 0 then (emp,z.2.1,z.2.2) else match sAll L z.1 with
 | .ok v _=>(v,0,0)
 | .er c p=>(emp,p,c)
 | .out=>(emp,0,0)
def gAll (s:ByteArray):z0i × Int × Int:=fin (s.size:Int) (told s.size (lexS s.data.toList 0))
theorem zqk (n:Nat) (z:List Tok × Option (Nat × Int)):(told n z).1.length≤2000:=by
 unfold told
 split
 ·simp
 ·split
  ·simp
  ·simp;omega
theorem zuk {s:ByteArray} (hs:s.size≤4194304):z9u s=some (cSys (gAll s).1,(gAll s).2.1,(gAll s).2.2):=by
 have hl:=z0dd s hs
 have h2:=zqk s.size (lexS s.data.toList 0)
 unfold gAll fin
 unfold finT at hl
 generalize told s.size (lexS s.data.toList 0)=z at *
 obtain ⟨ts,p,e⟩:=z
 cases he:(e != 0) with
 | true =>
  rw [zwh,hl]
  simp only [Option.bind_eq_bind,Option.bind_some,he,if_true]
  rfl
 | false =>
  have he':e=0:=by simpa using he
  subst he'
  rw [z08c hl h2]
  simp only [he,Bool.false_eq_true,if_false]
  cases sAll (s.size:Int) ts <;> rfl
theorem z07t {s:ByteArray} (hs:s.size≤4194304):zfm s=some (gAll s):=by
 have hl:=z0bu s hs
 have h2:=zqk s.size (lexS s.data.toList 0)
 unfold gAll fin
 unfold finR at hl
 generalize told s.size (lexS s.data.toList 0)=z at *
 obtain ⟨ts,p,e⟩:=z
 cases he:(e != 0) with
 | true =>
  rw [zsj,hl]
  simp only [Option.bind_eq_bind,Option.bind_some,he,if_true]
  rfl
 | false =>
  have he':e=0:=by simpa using he
  subst he'
  rw [z08r hl h2]
  simp only [he,Bool.false_eq_true,if_false]
  cases sAll (s.size:Int) ts <;> rfl
theorem z07u (s:ByteArray):zba (cSys (gAll s).1)≤20000:=by
 have h2:=zqk s.size (lexS s.data.toList 0)
 unfold gAll fin
 generalize told s.size (lexS s.data.toList 0)=z at *
 obtain ⟨ts,p,e⟩:=z
 have h0:zba (cSys emp)≤20000:=by simp [zba,cSys,emp,sumN]
 simp only
 split
 ·exact h0
 ·cases hv:sAll (s.size:Int) ts with
  | ok v r=>have:=z0bt hv;simp only at h2 ⊢;omega
  | er c p=>exact h0
  | out=>exact h0
def lexF:Nat→Bs→Nat→List Tok × Option (Nat × Int)
 | 0,_,_=>([],none)
 | n+1,l,p=>match l with
  | []=>([],none)
  | b::r =>
   if isB b then lexF n r (p+1)
   else match zfd (b::r) with
    | .error e=>([],some (p,e))
    | .ok w=>let z:=lexF n (r.drop (w.len - 1)) (p+w.len);(⟨w.kind,(b::r).take w.len,w.num,p⟩::z.1,z.2)
theorem z008:∀ n l p,l.length≤n→lexS l p=lexF n l p:=by
 intro n
 induction n with
 | zero =>
  intro l p h
  have:l=[]:=List.eq_nil_of_length_eq_zero (by omega)
  subst this;unfold lexS;rfl
 | succ n ih =>
  intro l p h
  cases l with
  | nil=>unfold lexS;rfl
  | cons b r =>
   simp only [List.length_cons] at h
   unfold lexS
   simp only [lexF]
   split
   ·exact ih _ _ (by omega)
   ·cases zfd (b::r) with
    | error e=>rfl
    | ok w=>simp only [ih (r.drop (w.len - 1)) (p+w.len) (by simp;omega)]
def gF (s:ByteArray):z0i × Int × Int:=fin (s.size:Int) (told s.size (lexF s.size s.data.toList 0))
theorem z0bv (s:ByteArray):gAll s=gF s:=by
 unfold gAll gF
 rw [z008 s.size _ _ (Nat.le_of_eq (by cases s;simp [ByteArray.size]))]
abbrev T1:ByteArray:=ByteArray.mk #[112,114,111,99,32,112,32,123,32,120,32,61,32,49,32,43,32,50,32,42,32,51,32,59,32,125]
abbrev T2:ByteArray:=ByteArray.mk #[112,114,111,99,32,112]
def nE (n:Int):z04:=⟨1,n,nB,[]⟩
theorem t1_g:gF T1=(⟨[],[],[⟨ByteArray.mk #[112],[],[.mk 1 (ByteArray.mk #[120]) nB ⟨4,0,nB,[nE 1,⟨6,0,nB,[nE 2,nE 3]⟩]⟩ zC [] [] []]⟩]⟩,0,0):=by kernel_rfl
theorem t2_g:gF T2=(emp,6,5):=by kernel_rfl
theorem z03m:ze6=some true:=by
 unfold ze6
 rw [zuk (s:=T1) (by decide),zuk (s:=T2) (by decide),z0bv T1,z0bv T2,t1_g,t2_g]
 rfl
end Go.Proofs.YtokjbpmjdcbogaaGreatDoor.Abs.Par

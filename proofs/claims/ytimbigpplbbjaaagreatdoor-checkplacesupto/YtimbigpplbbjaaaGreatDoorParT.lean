/- What parsing is, over words; the program's reader does it: signs, names, expressions. -/
import Derived.Test.YtimbigpplbbjaaaGreatDoorPlB
import Derived.KernelRfl
namespace Go.Proofs.YtimbigpplbbjaaaGreatDoor.Abs.Par
open Go Go.RowKit Wri
set_option linter.unusedVariables false
set_option linter.unusedSimpArgs false
inductive Rs (α:Type) where
 | ok (v:α) (ts:List Tok)
 | er (c p:Int)
 | out
def Rs.bind {α β:Type} (x:Rs α) (k:α→List Tok→Rs β):Rs β:=match x with
 | .ok v ts=>k v ts
 | .er c p=>.er c p
 | .out=>.out
section
variable (L:Int)
def sAt:List Tok→Int
 | []=>L
 | t::_=>(t.at_:Int)
def z6j (w:ByteArray):List Tok→Bool
 | []=>false
 | t::_=>decide (t.kind≥3)&&(t.text==w.data.toList)
def sOf (k:Int):List Tok→Bool
 | []=>false
 | t::_=>t.kind==k
def zap (w:ByteArray) (ts:List Tok):Rs Unit:=if z6j w ts then .ok () ts.tail else .er 5 (sAt L ts)
def zeg:List Tok→Rs ByteArray
 | []=>.er 5 L
 | t::r=>if t.kind==1 then .ok ⟨t.text.toArray⟩ r else .er 5 (t.at_:Int)
def sNum:List Tok→Rs Int
 | []=>.er 5 L
 | t::r=>if t.kind==2 then .ok (t.num:Int) r else .er 5 (t.at_:Int)
def za0:List ByteArray→List Tok→Option Nat
 | [],_=>none
 | w::l,ts=>if z6j w ts then some 0 else (za0 l ts).map (· + 1)
def zE:z31:=⟨0,0,ByteArray.mk #[],[]⟩
def zC:zat:=⟨0,zE,zE⟩
def mulS:List ByteArray:=[(ByteArray.mk #[42]),(ByteArray.mk #[47]),(ByteArray.mk #[37])]
def addS:List ByteArray:=[(ByteArray.mk #[43]),(ByteArray.mk #[45])]
mutual
def zf7:Nat→Nat→List Tok→Rs z31
 | 0,_,_=>.out
 | f+1,d,ts =>
  if z6j (ByteArray.mk #[45]) ts then (if d=24 then .er 6 (sAt L ts) else (zf7 f (d+1) ts.tail).bind fun e r=>.ok ⟨3,0,ByteArray.mk #[],[e]⟩ r)
  else if z6j (ByteArray.mk #[40]) ts then (if d=24 then .er 6 (sAt L ts) else (zot f (d+1) ts.tail).bind fun e r=>(zap L (ByteArray.mk #[41]) r).bind fun _ r'=>.ok e r')
  else if sOf 2 ts then (sNum L ts).bind fun n r=>.ok ⟨1,n,ByteArray.mk #[],[]⟩ r
  else (zeg L ts).bind fun s r=>.ok ⟨2,0,s,[]⟩ r
def sMul:Nat→Nat→z31→List Tok→Rs z31
 | 0,_,_,_=>.out
 | f+1,d,e,ts=>match za0 mulS ts with
  | none=>.ok e ts
  | some j=>(zf7 f d ts.tail).bind fun k r=>sMul f d ⟨6+(j:Int),0,ByteArray.mk #[],[e,k]⟩ r
def zou:Nat→Nat→List Tok→Rs z31
 | 0,_,_=>.out
 | f+1,d,ts=>(zf7 f d ts).bind fun e r=>sMul f d e r
def sAdd:Nat→Nat→z31→List Tok→Rs z31
 | 0,_,_,_=>.out
 | f+1,d,e,ts=>match za0 addS ts with
  | none=>.ok e ts
  | some j=>(zou f d ts.tail).bind fun k r=>sAdd f d ⟨4+(j:Int),0,ByteArray.mk #[],[e,k]⟩ r
def zot:Nat→Nat→List Tok→Rs z31
 | 0,_,_=>.out
 | f+1,d,ts=>(zou f d ts).bind fun e r=>sAdd f d e r
end
end
def PS (L:Int) (ts:List Tok) (d i:Int):z00:=⟨ts.map tokT,L,0,0,d,i⟩
def EP (a:z00) (c p:Int):Prop:=a.f_e=c∧a.f_at=p
section
variable {ρ ρ' β γ:Type} {L d i d' i':Int} {π:ρ→z00} {mk:β→z00→ρ} {π':ρ'→z00} {mk':γ→z00→ρ'} {H:Nat}
def GP (L d i:Int) (π:ρ→z00) (mk:β→z00→ρ):Rs β→ρ→Prop
 | .ok v ts,r=>r=mk v (PS L ts d i)
 | .er c p,r=>c≠0∧EP (π r) c p
 | .out,_=>False
def TP (L d i:Int) (π:ρ→z00) (mk:β→z00→ρ) (H:Nat) (x:Nat→Option ρ) (o:Rs β):Prop:=o≠.out→∃ r,GP L d i π mk o r∧∀ n,Sn n H (x n) r
theorem TP.bind {x:Nat→Option ρ} {o:Rs β} {k:Nat→ρ→Option ρ'} {k':β→List Tok→Rs γ} (h:TP L d i π mk H x o) (hok:∀ v ts,o=.ok v ts→TP L d' i' π' mk' H (fun n=>k n (mk v (PS L ts d i))) (k' v ts))
  (her:∀ r c p,c≠0→EP (π r) c p→∃ r',EP (π' r') c p∧∀ n,Sn n H (k n r) r'):TP L d' i' π' mk' H (fun n=>x n>>=k n) (o.bind k'):=by
 intro hne
 cases o with
 | ok v ts =>
  obtain ⟨r,hr,hs⟩:=h (by simp)
  have hr:r=mk v (PS L ts d i):=hr
  subst hr
  obtain ⟨r',g',s'⟩:=hok v ts rfl hne
  exact ⟨r',g',fun n=>Sn.bind (f:=k n) (hs n) (s' n)⟩
 | er c p =>
  obtain ⟨r,⟨hc,he⟩,hs⟩:=h (by simp)
  obtain ⟨r',he',s'⟩:=her r c p hc he
  exact ⟨r',⟨hc,he'⟩,fun n=>Sn.bind (f:=k n) (hs n) (s' n)⟩
 | out=>exact absurd rfl hne
theorem TP.pure {x:Nat→Option ρ} {v:β} {ts:List Tok} (e:∀ n,x n=some (mk v (PS L ts d i))):TP L d i π mk H x (.ok v ts):=fun _=>⟨_,rfl,fun n=>.inl (e n)⟩
theorem TP.err {x:Nat→Option ρ} {r:ρ} {c p:Int} (e:∀ n,x n=some r) (hc:c≠0) (hp:EP (π r) c p):TP L d i π mk H x (.er c p):=fun _=>⟨r,⟨hc,hp⟩,fun n=>.inl (e n)⟩
theorem TP.up {F x:Nat→Option ρ} {o:Rs β} (h0:F 0=none) (h1:∀ n,F (n+1)=x n) (h:TP L d i π mk H x o):TP L d i π mk (H+1) F o:=by
 intro hne
 obtain ⟨r,g,s⟩:=h hne
 refine ⟨r,g,fun n=>?_⟩
 cases n with
 | zero=>exact .inr ⟨h0,by omega⟩
 | succ n=>rw [h1];exact (s n).up
theorem TP.mono {x:Nat→Option ρ} {o:Rs β} {H':Nat} (h:TP L d i π mk H x o) (hh:H≤H'):TP L d i π mk H' x o:=fun hne=>by
 obtain ⟨r,g,s⟩:=h hne
 exact ⟨r,g,fun n=>(s n).mono hh⟩
theorem TP.eq {x y:Nat→Option ρ} {o:Rs β} (h:TP L d i π mk H y o) (e:∀ n,x n=y n):TP L d i π mk H x o:=by
 rw [show x=y from funext e];exact h
theorem TP.unf {x:Nat→Option ρ} {o:Rs β} (h:TP L d i π mk H x o):TP L d i π mk 0 (fun _=>unf x) o:=fun hne=>by
 obtain ⟨r,g,s⟩:=h hne
 exact ⟨r,g,fun n=>.inl (Sn.unf s)⟩
end
theorem zlg {ρ:Type} {P:ρ→Prop} {x:Nat→Option ρ} {r:ρ} {H:Nat} (e:∀ n,Sn n H (x n) r) (p:P r):∃ r,P r∧∀ n,Sn n H (x n) r:=⟨r,p,e⟩
theorem z002 (t:Tok):(tokT t).Text.data.toList=t.text:=by simp [tokT]
theorem idx0 {α:Type} (x:α) (l:List α):idx (x::l) 0=some x:=rfl
theorem z08q {α:Type} (x:α) (l:List α) (h:l.length≤4611686018427387904):lsub (x::l) 1 ((x::l).length:Int)=some l:=by
 unfold lsub
 rw [if_pos ⟨by omega,by simp only [List.length_cons];omega,by omega⟩]
 simp
section
variable {L d i:Int} {ts:List Tok}
theorem zje (w:ByteArray):z3k (PS L ts d i) w=some (z6j w ts):=by
 cases ts with
 | nil=>rfl
 | cons t r =>
  unfold z3k PS z6j
  have h1:decide (((tokT t::r.map tokT).length:Int) > 0)=true:=by simp
  have e:(tokT t).Kind=t.kind:=rfl
  simp only [beq_self_eq_true,if_true,List.map_cons,h1,idx0,Option.bind_eq_bind,Option.bind_some,Go.ByteArray.toList_eq,z002,e]
  cases decide (t.kind≥3) <;> simp
theorem of_P (k:Int):z6q (PS L ts d i) k=some (sOf k ts):=by
 cases ts with
 | nil=>rfl
 | cons t r =>
  unfold z6q PS sOf
  have h1:decide (((tokT t::r.map tokT).length:Int) > 0)=true:=by simp
  simp only [beq_self_eq_true,if_true,List.map_cons,h1,idx0,Option.bind_eq_bind,Option.bind_some]
  rfl
theorem zo8 (c:Int):z2q (PS L ts d i) c=some ⟨ts.map tokT,L,c,sAt L ts,d,i⟩:=by
 cases ts with
 | nil=>rfl
 | cons t r =>
  unfold z2q PS sAt
  have h1:decide (((tokT t::r.map tokT).length:Int) > 0)=true:=by simp
  simp only [z025,Bool.false_eq_true,if_false,if_true,List.map_cons,h1,idx0,Option.bind_eq_bind,Option.bind_some]
  rfl
theorem zb7 (hl:ts.length≤2000) (w:ByteArray):z0r (PS L ts d i) w=some (if z6j w ts then (PS L ts.tail d i,true) else (PS L ts d i,false)):=by
 unfold z0r
 rw [zje]
 cases hs:z6j w ts with
 | false=>rfl
 | true =>
  cases ts with
  | nil=>cases hs
  | cons t r =>
   simp only [Option.bind_eq_bind,Option.bind_some,Bool.not_true,Bool.false_eq_true,if_false,if_true,List.tail_cons]
   have:lsub (PS L (t::r) d i).f_l 1 ((PS L (t::r) d i).f_l.length:Int)=some (r.map tokT):=z08q (tokT t) (r.map tokT) (by simp at hl ⊢;omega)
   rw [this];rfl
theorem zvf (hl:ts.length≤2000) (w:ByteArray):z08 (PS L ts d i) w=some (if z6j w ts then PS L ts.tail d i else ⟨ts.map tokT,L,5,sAt L ts,d,i⟩):=by
 unfold z08
 rw [zb7 hl]
 cases hs:z6j w ts with
 | false=>simp [zo8]
 | true=>simp
abbrev mkM:Unit→z00→z00:=fun _ a=>a
abbrev mkV {α:Type}:α→z00→z00 × α:=fun v a=>(a,v)
theorem z96 {H:Nat} (hl:ts.length≤2000) (w:ByteArray):TP L d i id mkM H (fun _=>z08 (PS L ts d i) w) (zap L w ts):=by
 unfold zap
 cases hs:z6j w ts with
 | true=>exact TP.pure (fun n=>by rw [zvf hl,hs];rfl)
 | false=>exact TP.err (r:=⟨ts.map tokT,L,5,sAt L ts,d,i⟩) (fun n=>by rw [zvf hl,hs];rfl) (by decide) ⟨rfl,rfl⟩
theorem zpc (hl:ts.length≤2000) (k:Int):z6i (PS L ts d i) k=match ts with
  | []=>some (⟨[],L,5,L,d,i⟩,⟨0,ByteArray.mk #[],0,0⟩)
  | t::r=>if t.kind==k then some (PS L r d i,tokT t) else some (⟨(t::r).map tokT,L,5,(t.at_:Int),d,i⟩,⟨0,ByteArray.mk #[],0,0⟩):=by
 unfold z6i
 rw [of_P]
 cases ts with
 | nil=>rfl
 | cons t r =>
  simp only [sOf]
  cases hk:(t.kind==k) with
  | false=>simp only [Option.bind_eq_bind,Option.bind_some,Bool.not_false,if_true,zo8,Bool.false_eq_true,if_false];rfl
  | true =>
   have:lsub (PS L (t::r) d i).f_l 1 ((PS L (t::r) d i).f_l.length:Int)=some (r.map tokT):=z08q (tokT t) (r.map tokT) (by simp at hl ⊢;omega)
   have h0:idx (PS L (t::r) d i).f_l 0=some (tokT t):=rfl
   simp only [Option.bind_eq_bind,Option.bind_some,Bool.not_true,Bool.false_eq_true,if_false,if_true,this,h0]
   rfl
theorem zdx {H:Nat} (hl:ts.length≤2000):TP L d i Prod.fst mkV H (fun _=>z0o (PS L ts d i)) (zeg L ts):=by
 unfold z0o
 cases ts with
 | nil=>exact TP.err (r:=(⟨[],L,5,L,d,i⟩,ByteArray.mk #[])) (fun n=>by rw [zpc hl];rfl) (by decide) ⟨rfl,rfl⟩
 | cons t r =>
  simp only [zeg]
  cases hk:(t.kind==1) with
  | true=>exact TP.pure (fun n=>by rw [zpc hl];simp only [hk,if_true];rfl)
  | false=>exact TP.err (r:=(⟨(t::r).map tokT,L,5,(t.at_:Int),d,i⟩,ByteArray.mk #[])) (fun n=>by rw [zpc hl];simp only [hk,Bool.false_eq_true,if_false];rfl) (by decide) ⟨rfl,rfl⟩
theorem z026 {H:Nat} (hl:ts.length≤2000):TP L d i Prod.fst mkV H (fun _=>z2i (PS L ts d i)) (sNum L ts):=by
 unfold z2i
 cases ts with
 | nil=>exact TP.err (r:=(⟨[],L,5,L,d,i⟩,0)) (fun n=>by rw [zpc hl];rfl) (by decide) ⟨rfl,rfl⟩
 | cons t r =>
  simp only [sNum]
  cases hk:(t.kind==2) with
  | true=>exact TP.pure (fun n=>by rw [zpc hl];simp only [hk,if_true];rfl)
  | false=>exact TP.err (r:=(⟨(t::r).map tokT,L,5,(t.at_:Int),d,i⟩,0)) (fun n=>by rw [zpc hl];simp only [hk,Bool.false_eq_true,if_false];rfl) (by decide) ⟨rfl,rfl⟩
def tp6 (a:z00):List z0m × Int × Int × Int × Int × Int:=(a.f_l,a.f_end,a.f_e,a.f_at,a.f_deep,a.f_in)
theorem z027 (hl:ts.length≤2000) (ws:List ByteArray) (hw:ws.length≤1000):∀ (m:List ByteArray) (k:Nat),ws.drop k=m→k≤ws.length →
  iter (z0u ws) ((k:Int),tp6 (PS L ts d i))=some (match za0 m ts with|some j=>.inl (PS L ts.tail d i,((k+j:Nat):Int))|none=>.inr (tp6 (PS L ts d i))):=by
 intro m
 induction m with
 | nil =>
  intro k hd hk
  have:k=ws.length:=by have:=List.drop_eq_nil_iff.1 hd;omega
  subst this
  refine z4r ?_
  unfold z0u
  rw [if_neg (by simp)]
  rfl
 | cons w m ih =>
  intro k hd hk
  have hlt:k<ws.length:=by
   refine Nat.lt_of_not_le fun h=>?_
   rw [List.drop_of_length_le h] at hd;cases hd
  rw [List.drop_eq_getElem_cons hlt] at hd
  injection hd with h1 h2
  have hi:idx ws (k:Int)=some w:=by rw [z9m hlt,h1]
  have hs:z0r (z00.mk (tp6 (PS L ts d i)).1 (tp6 (PS L ts d i)).2.1 (tp6 (PS L ts d i)).2.2.1 (tp6 (PS L ts d i)).2.2.2.1 (tp6 (PS L ts d i)).2.2.2.2.1 (tp6 (PS L ts d i)).2.2.2.2.2) w=_:=zb7 hl w
  have hbody:z0u ws ((k:Int),tp6 (PS L ts d i))=some (if z6j w ts then .inr (.inl (PS L ts.tail d i,(k:Int))) else .inl (((k+1:Nat):Int),tp6 (PS L ts d i))):=by
   unfold z0u
   rw [if_pos (by simpa using hlt)]
   simp only [hi,Option.bind_eq_bind,Option.bind_some,hs,z08r (i:=k) (by omega)]
   cases z6j w ts <;> rfl
  simp only [za0]
  cases hsw:z6j w ts with
  | true =>
   rw [hsw,if_pos rfl] at hbody
   rw [z4r hbody];simp
  | false =>
   rw [hsw,if_neg (by decide)] at hbody
   rw [z9w hbody,ih (k+1) h2 hlt]
   cases za0 m ts with
   | none=>simp
   | some j=>simp;omega
theorem zq8 (hl:ts.length≤2000) (ws:List ByteArray) (hw:ws.length≤1000):z25 (PS L ts d i) ws=some (match za0 ws ts with|some j=>(PS L ts.tail d i,(j:Int))|none=>(PS L ts d i,-1)):=by
 have h:=z027 (L:=L) (d:=d) (i:=i) hl ws hw ws 0 rfl (by omega)
 unfold z25 z2m
 have e:(((0:Nat):Int),tp6 (PS L ts d i))=(0,(PS L ts d i).f_l,(PS L ts d i).f_end,(PS L ts d i).f_e,(PS L ts d i).f_at,(PS L ts d i).f_deep,(PS L ts d i).f_in):=rfl
 rw [← e,h]
 cases za0 ws ts with
 | none=>rfl
 | some j=>simp
end
section
variable {a:z00} (h:a.f_e≠0)
include h
theorem e0:(a.f_e==0)=false:=by simpa using h
theorem e1:(a.f_e != 0)=true:=by simpa using h
theorem z003 (w:ByteArray):z3k a w=some false:=by unfold z3k;rw [if_neg (by simp [h])]
theorem of_e (k:Int):z6q a k=some false:=by unfold z6q;rw [if_neg (by simp [h])]
theorem zpd (c:Int):z2q a c=some a:=by unfold z2q;rw [if_pos (by simp [h])]
theorem zid (w:ByteArray):z0r a w=some (a,false):=by unfold z0r;rw [z003 h];rfl
theorem zf8 (w:ByteArray):z08 a w=some a:=by
 unfold z08;rw [zid h]
 simp only [Option.bind_eq_bind,Option.bind_some,Bool.not_false,if_true,zpd h]
theorem z03v (k:Int):z6i a k=some (a,⟨0,ByteArray.mk #[],0,0⟩):=by
 unfold z6i;rw [of_e h]
 simp only [Option.bind_eq_bind,Option.bind_some,Bool.not_false,if_true,zpd h]
theorem zpe:z0o a=some (a,ByteArray.mk #[]):=by unfold z0o;rw [z03v h];rfl
theorem z08s:z2i a=some (a,0):=by unfold z2i;rw [z03v h];rfl
theorem z004 (ws:List ByteArray) (hw:ws.length≤1000):z25 a ws=some (a,-1):=by
 have it:∀ (m:List ByteArray) (k:Nat),ws.drop k=m→k≤ws.length→iter (z0u ws) ((k:Int),tp6 a)=some (.inr (tp6 a)):=by
  intro m
  induction m with
  | nil =>
   intro k hd hk
   have:k=ws.length:=by have:=List.drop_eq_nil_iff.1 hd;omega
   subst this
   refine z4r ?_
   unfold z0u
   rw [if_neg (by simp)]
   try rfl
  | cons w m ih =>
   intro k hd hk
   have hlt:k<ws.length:=by
    refine Nat.lt_of_not_le fun h=>?_
    rw [List.drop_of_length_le h] at hd;cases hd
   rw [List.drop_eq_getElem_cons hlt] at hd
   injection hd with h1 h2
   have hi:idx ws (k:Int)=some w:=by rw [z9m hlt,h1]
   have hs:z0r (z00.mk (tp6 a).1 (tp6 a).2.1 (tp6 a).2.2.1 (tp6 a).2.2.2.1 (tp6 a).2.2.2.2.1 (tp6 a).2.2.2.2.2) w=_:=zid h w
   rw [z9w (y:=(((k+1:Nat):Int),tp6 a))]
   ·exact ih (k+1) h2 hlt
   ·unfold z0u
    rw [if_pos (by simpa using hlt)]
    simp only [hi,Option.bind_eq_bind,Option.bind_some,hs,z08r (i:=k) (by omega)]
    rfl
 unfold z25 z2m
 have e:(((0:Nat):Int),tp6 a)=(0,a.f_l,a.f_end,a.f_e,a.f_at,a.f_deep,a.f_in):=rfl
 rw [← e,it ws 0 rfl (by omega)]
 try rfl
end
theorem bind_ok {α β:Type} {o:Rs α} {k:α→List Tok→Rs β} {v:β} {r:List Tok} (h:o.bind k=.ok v r):∃ w s,o=.ok w s∧k w s=.ok v r:=by
 cases o with
 | ok w s=>exact ⟨w,s,rfl,h⟩
 | er c p=>cases h
 | out=>cases h
section
variable {L:Int}
theorem z6s {w:ByteArray} {ts:List Tok} (h:z6j w ts=true):ts.tail.length<ts.length:=by
 cases ts with
 | nil=>cases h
 | cons t r=>simp
theorem zbj {ts:List Tok}:∀ {ws:List ByteArray} {j:Nat},za0 ws ts=some j→ts.tail.length<ts.length∧j<ws.length
 | [],j,h=>by cases h
 | w::l,j,h=>by
  simp only [za0] at h
  split at h
  ·rename_i hs;injection h with h;subst h;exact ⟨z6s hs,by simp⟩
  ·cases hw:za0 l ts with
   | none=>rw [hw] at h;cases h
   | some k =>
    rw [hw] at h;injection h with h
    have:=zbj hw
    exact ⟨this.1,by rw [← h];simp;omega⟩
theorem z34 {w:ByteArray} {ts r:List Tok} {v:Unit} (h:zap L w ts=.ok v r):r <:+ ts∧r.length<ts.length:=by
 unfold zap at h
 split at h
 ·rename_i hs;injection h with _ h;subst h;exact ⟨List.tail_suffix ts,z6s hs⟩
 ·cases h
theorem z4l {ts r:List Tok} {v:ByteArray} (h:zeg L ts=.ok v r):r <:+ ts∧r.length<ts.length:=by
 cases ts with
 | nil=>cases h
 | cons t s =>
  simp only [zeg] at h
  split at h
  ·injection h with _ h;subst h;exact ⟨List.suffix_cons t s,by simp⟩
  ·cases h
theorem zie {ts r:List Tok} {v:Int} (h:sNum L ts=.ok v r):r <:+ ts∧r.length<ts.length:=by
 cases ts with
 | nil=>cases h
 | cons t s =>
  simp only [sNum] at h
  split at h
  ·injection h with _ h;subst h;exact ⟨List.suffix_cons t s,by simp⟩
  ·cases h
structure Suf (L:Int) (f:Nat):Prop where
 fac:∀ d ts v r,zf7 L f d ts=.ok v r→r <:+ ts
 mul:∀ d e ts v r,sMul L f d e ts=.ok v r→r <:+ ts
 term:∀ d ts v r,zou L f d ts=.ok v r→r <:+ ts
 add:∀ d e ts v r,sAdd L f d e ts=.ok v r→r <:+ ts
 exp:∀ d ts v r,zot L f d ts=.ok v r→r <:+ ts
theorem suf (L:Int):∀ f,Suf L f:=by
 intro f
 induction f with
 | zero=>exact ⟨fun d ts v r h=>by simp [zf7] at h,fun d e ts v r h=>by simp [sMul] at h,fun d ts v r h=>by simp [zou] at h,fun d e ts v r h=>by simp [sAdd] at h,fun d ts v r h=>by simp [zot] at h⟩
 | succ f ih =>
  refine ⟨fun d ts v r h=>?_,fun d e ts v r h=>?_,fun d ts v r h=>?_,fun d e ts v r h=>?_,fun d ts v r h=>?_⟩
  ·simp only [zf7] at h
   split at h
   ·split at h
    ·cases h
    ·obtain ⟨w,s,h1,h2⟩:=bind_ok h
     injection h2 with _ h2;subst h2
     exact (ih.fac _ _ _ _ h1).trans (List.tail_suffix ts)
   ·split at h
    ·split at h
     ·cases h
     ·obtain ⟨w,s,h1,h2⟩:=bind_ok h
      obtain ⟨w',s',h3,h4⟩:=bind_ok h2
      injection h4 with _ h4;subst h4
      exact ((z34 h3).1.trans (ih.exp _ _ _ _ h1)).trans (List.tail_suffix ts)
    ·split at h
     ·obtain ⟨w,s,h1,h2⟩:=bind_ok h
      injection h2 with _ h2;subst h2
      exact (zie h1).1
     ·obtain ⟨w,s,h1,h2⟩:=bind_ok h
      injection h2 with _ h2;subst h2
      exact (z4l h1).1
  ·simp only [sMul] at h
   split at h
   ·injection h with _ h;subst h;exact List.suffix_refl _
   ·obtain ⟨w,s,h1,h2⟩:=bind_ok h
    exact ((ih.mul _ _ _ _ _ h2).trans (ih.fac _ _ _ _ h1)).trans (List.tail_suffix ts)
  ·simp only [zou] at h
   obtain ⟨w,s,h1,h2⟩:=bind_ok h
   exact (ih.mul _ _ _ _ _ h2).trans (ih.fac _ _ _ _ h1)
  ·simp only [sAdd] at h
   split at h
   ·injection h with _ h;subst h;exact List.suffix_refl _
   ·obtain ⟨w,s,h1,h2⟩:=bind_ok h
    exact ((ih.add _ _ _ _ _ h2).trans (ih.term _ _ _ _ h1)).trans (List.tail_suffix ts)
  ·simp only [zot] at h
   obtain ⟨w,s,h1,h2⟩:=bind_ok h
   exact (ih.add _ _ _ _ _ h2).trans (ih.term _ _ _ _ h1)
end
def zA:z06:=⟨0,0,ByteArray.mk #[],[]⟩
def vA:z06:=⟨2,0,ByteArray.mk #[],[]⟩
def tpE (a:z00) (e:z06):List z0m × Int × Int × Int × Int × Int × Int × Int × ByteArray × List z06:=(a.f_l,a.f_end,a.f_e,a.f_at,a.f_deep,a.f_in,e.Kind,e.Num,e.Name,e.Kids)
noncomputable def MB (n:Nat):=z2r (z1l n) (z0i n) (z1g n) (z0g n) (z0s n) (z1h n) (z1m n) mulS 6
noncomputable def AB (n:Nat):=z2z (z1l n) (z0i n) (z1g n) (z0g n) (z0s n) (z1h n) (z1m n) addS 4
abbrev E10:=List z0m × Int × Int × Int × Int × Int × Int × Int × ByteArray × List z06
def finE (j1:E10):Option (z00 × z06):=some ((z00.mk j1.1 j1.2.1 j1.2.2.1 j1.2.2.2.1 j1.2.2.2.2.1 j1.2.2.2.2.2.1),(z06.mk j1.2.2.2.2.2.2.1 j1.2.2.2.2.2.2.2.1 j1.2.2.2.2.2.2.2.2.1 j1.2.2.2.2.2.2.2.2.2))
noncomputable def MF (n:Nat) (a:z00) (e:z06):Option (z00 × z06):=iter (MB n) (tpE a e)>>=Sum.elim (fun _=>none) finE
noncomputable def AF (n:Nat) (a:z00) (e:z06):Option (z00 × z06):=iter (AB n) (tpE a e)>>=Sum.elim (fun _=>none) finE
section
variable {a:z00} (h:a.f_e≠0)
include h
theorem MF_e (n:Nat) (e:z06):MF n a e=some (a,e):=by
 obtain ⟨k,m,s,l⟩:=e
 unfold MF
 rw [z4r (r:=.inr (tpE a ⟨k,m,s,l⟩)) (by
  unfold MB z2r
  rw [if_neg (by simpa [tpE] using h)])]
 rfl
theorem AF_e (n:Nat) (e:z06):AF n a e=some (a,e):=by
 obtain ⟨k,m,s,l⟩:=e
 unfold AF
 rw [z4r (r:=.inr (tpE a ⟨k,m,s,l⟩)) (by
  unfold AB z2z
  rw [if_neg (by simpa [tpE] using h)])]
 rfl
theorem z028 (n:Nat):Sn n 1 (z0s n a) (a,vA):=by
 cases n with
 | zero=>exact .inr ⟨rfl,by omega⟩
 | succ n =>
  refine .inl ?_
  simp only [z0s,z003 h,of_e h,zpe h,Option.bind_eq_bind,Option.bind_some,Bool.false_eq_true,if_false]
  rfl
theorem z029 (n:Nat):Sn n 2 (z0g n a mulS 6) (a,vA):=by
 cases n with
 | zero=>exact .inr ⟨rfl,by omega⟩
 | succ n =>
  simp only [z0g]
  exact (Sn.bind (f:=fun v1=>MF n v1.1 v1.2) (z028 h n) (.inl (MF_e h n vA))).up
theorem z08t (n:Nat):Sn n 3 (z1g n a) (a,vA):=by
 cases n with
 | zero=>exact .inr ⟨rfl,by omega⟩
 | succ n =>
  simp only [z1g]
  exact (Sn.bind (f:=fun v1=>some (v1.1,v1.2)) (z029 h n) (.inl rfl)).up
theorem z02a (n:Nat):Sn n 4 (z0i n a addS 4) (a,vA):=by
 cases n with
 | zero=>exact .inr ⟨rfl,by omega⟩
 | succ n =>
  simp only [z0i]
  exact (Sn.bind (f:=fun v1=>AF n v1.1 v1.2) (z08t h n) (.inl (AF_e h n vA))).up
theorem z061 (n:Nat):Sn n 5 (z1l n a) (a,vA):=by
 cases n with
 | zero=>exact .inr ⟨rfl,by omega⟩
 | succ n =>
  simp only [z1l]
  exact (Sn.bind (f:=fun v1=>some (v1.1,v1.2)) (z02a h n) (.inl rfl)).up
theorem z08u:z62 a=some (a,vA):=Sn.unf fun n=>z061 h n
end
section
variable {L i:Int} {ts:List Tok} {d:Int}
theorem z08v (hl:ts.length≤2000) (n:Nat) (e:z06):MF n (PS L ts d i) e=match za0 mulS ts with
  | none=>some (PS L ts d i,e)
  | some j=>z0s n (PS L ts.tail d i)>>=fun v=>MF n v.1 ⟨6+(j:Int),0,ByteArray.mk #[],[e,v.2]⟩:=by
 obtain ⟨ek,em,es,el⟩:=e
 have hw:=zq8 (L:=L) (d:=d) (i:=i) hl mulS (by decide)
 have hb:MB n (tpE (PS L ts d i) ⟨ek,em,es,el⟩)=match za0 mulS ts with
   | none=>some (.inr (.inr (tpE (PS L ts d i) ⟨ek,em,es,el⟩)))
   | some j=>z0s n (PS L ts.tail d i)>>=fun v=>some (.inl (tpE v.1 ⟨6+(j:Int),0,ByteArray.mk #[],[⟨ek,em,es,el⟩,v.2]⟩)):=by
  unfold MB z2r
  rw [if_pos (by rfl)]
  show (z25 (PS L ts d i) mulS).bind _=_
  rw [hw]
  cases hs:za0 mulS ts with
  | none=>simp only [Option.bind_some];rfl
  | some j =>
   have hj:=(zbj hs).2
   have hj:j<3:=hj
   have h1:decide (((j:Nat):Int)<0)=false:=by simp
   have h2:IntKind.i64.wrap (6+(j:Int))=6+(j:Int):=w64 (by omega) (by omega)
   simp only [Option.bind_some,h1,Bool.false_eq_true,if_false,h2]
   rfl
 unfold MF
 rw [zcd,hb]
 cases hs:za0 mulS ts with
 | none=>rfl
 | some j =>
  simp only [Option.bind_eq_bind,Option.bind_assoc,Option.bind_some]
theorem z08w (hl:ts.length≤2000) (n:Nat) (e:z06):AF n (PS L ts d i) e=match za0 addS ts with
  | none=>some (PS L ts d i,e)
  | some j=>z1g n (PS L ts.tail d i)>>=fun v=>AF n v.1 ⟨4+(j:Int),0,ByteArray.mk #[],[e,v.2]⟩:=by
 obtain ⟨ek,em,es,el⟩:=e
 have hw:=zq8 (L:=L) (d:=d) (i:=i) hl addS (by decide)
 have hb:AB n (tpE (PS L ts d i) ⟨ek,em,es,el⟩)=match za0 addS ts with
   | none=>some (.inr (.inr (tpE (PS L ts d i) ⟨ek,em,es,el⟩)))
   | some j=>z1g n (PS L ts.tail d i)>>=fun v=>some (.inl (tpE v.1 ⟨4+(j:Int),0,ByteArray.mk #[],[⟨ek,em,es,el⟩,v.2]⟩)):=by
  unfold AB z2z
  rw [if_pos (by rfl)]
  show (z25 (PS L ts d i) addS).bind _=_
  rw [hw]
  cases hs:za0 addS ts with
  | none=>simp only [Option.bind_some];rfl
  | some j =>
   have hj:=(zbj hs).2
   have hj:j<2:=hj
   have h1:decide (((j:Nat):Int)<0)=false:=by simp
   have h2:IntKind.i64.wrap (4+(j:Int))=4+(j:Int):=w64 (by omega) (by omega)
   simp only [Option.bind_some,h1,Bool.false_eq_true,if_false,h2]
   rfl
 unfold AF
 rw [zcd,hb]
 cases hs:za0 addS ts with
 | none=>rfl
 | some j =>
  simp only [Option.bind_eq_bind,Option.bind_assoc,Option.bind_some]
end
abbrev mkE:z31→z00→z00 × z06:=fun v a=>(a,cE v)
structure PX (L i:Int) (f:Nat):Prop where
 fac:∀ (d:Nat) ts,d≤24→ts.length≤2000→TP L d i Prod.fst mkE (2*f) (fun n=>z0s n (PS L ts d i)) (zf7 L f d ts)
 mul:∀ (d:Nat) e ts,d≤24→ts.length≤2000→TP L d i Prod.fst mkE (2*f) (fun n=>MF n (PS L ts d i) (cE e)) (sMul L f d e ts)
 term:∀ (d:Nat) ts,d≤24→ts.length≤2000→TP L d i Prod.fst mkE (2*f) (fun n=>z1g n (PS L ts d i)) (zou L f d ts)
 add:∀ (d:Nat) e ts,d≤24→ts.length≤2000→TP L d i Prod.fst mkE (2*f) (fun n=>AF n (PS L ts d i) (cE e)) (sAdd L f d e ts)
 exp:∀ (d:Nat) ts,d≤24→ts.length≤2000→TP L d i Prod.fst mkE (2*f) (fun n=>z1l n (PS L ts d i)) (zot L f d ts)
theorem zif {ρ β:Type} {L d i:Int} {π:ρ→z00} {mk:β→z00→ρ} {H:Nat} {x:Nat→Option ρ}:TP L d i π mk H x (.out:Rs β):=fun h=>absurd rfl h
theorem zn6 {α β:Type} (x:Option (α × β)):(x.bind fun v=>some (v.1,v.2))=x:=by cases x <;> rfl
theorem z5n {a:z00} {c p:Int} (hc:c≠0) (h:EP a c p):a.f_e≠0:=by rw [h.1];exact hc
theorem zq9 {L i:Int} {ts:List Tok} {d:Nat} (hd:d≤24):z7q (PS L ts d i)=some (if d=24 then (⟨ts.map tokT,L,6,sAt L ts,d,i⟩,false) else (PS L ts ((d+1:Nat):Int) i,true)):=by
 unfold z7q
 by_cases h:d=24
 ·subst h
  rw [if_pos (by rfl),zo8];rfl
 ·have:((PS L ts (d:Int) i).f_deep==24)=false:=by
   show ((d:Int)==24)=false
   simp;omega
  rw [this,if_neg (by decide),if_neg h]
  have hw:IntKind.i64.wrap ((d:Int)+1)=((d+1:Nat):Int):=by rw [w64 (by omega) (by omega)];omega
  show some ((⟨ts.map tokT,L,0,0,IntKind.i64.wrap ((d:Int)+1),i⟩:z00),true)=_
  rw [hw];rfl
theorem px (L i:Int):∀ f,PX L i f:=by
 intro f
 induction f with
 | zero=>exact ⟨fun d ts _ _=>by simp only [zf7];exact zif,fun d e ts _ _=>by simp only [sMul];exact zif,fun d ts _ _=>by simp only [zou];exact zif,fun d e ts _ _=>by simp only [sAdd];exact zif,fun d ts _ _=>by simp only [zot];exact zif⟩
 | succ f ih =>
  have sf:=suf L f
  refine ⟨fun d ts hd hl=>?_,fun d e ts hd hl=>?_,fun d ts hd hl=>?_,fun d e ts hd hl=>?_,fun d ts hd hl=>?_⟩
  ·-- a factor
   simp only [zf7]
   cases h1:z6j (ByteArray.mk #[45]) ts with
   | true =>
    have hlt:ts.tail.length≤2000:=by have:=z6s h1;omega
    simp only [if_true]
    refine TP.up (H:=2*f+1) (x:=fun n=>z1h n (PS L ts d i)) rfl (fun n=>by simp only [z0s,zje,h1,Option.bind_eq_bind,Option.bind_some,if_true,zn6]) ?_
    by_cases h24:d=24
    ·rw [if_pos h24]
     refine TP.up (H:=2*f) (x:=fun _=>some (⟨ts.map tokT,L,6,sAt L ts,d,i⟩,zA)) rfl (fun n=>by simp only [z1h,zq9 hd,if_pos h24,Option.bind_eq_bind,Option.bind_some];rfl) ?_
     exact TP.err (fun n=>rfl) (by decide) ⟨rfl,rfl⟩
    ·rw [if_neg h24]
     refine TP.up (H:=2*f) (x:=fun n=>z0s n (PS L ts.tail ((d+1:Nat):Int) i)>>=fun v3=>some ((z00.mk v3.1.f_l v3.1.f_end v3.1.f_e v3.1.f_at (IntKind.i64.wrap (v3.1.f_deep - 1)) v3.1.f_in),(z06.mk 3 0 (ByteArray.mk #[]) [v3.2]))) rfl (fun n=>by
      simp only [z1h,zq9 hd,if_neg h24,Option.bind_eq_bind,Option.bind_some,Bool.not_true,Bool.false_eq_true,if_false,zvf hl,h1,if_true]) ?_
     refine TP.bind (ih.fac (d+1) ts.tail (by omega) hlt) (fun v r hv=>TP.pure (fun n=>?_)) (fun r c p hc he=>zlg (fun n=>.inl rfl) ⟨he.1,he.2⟩)
     have hw:IntKind.i64.wrap (((d+1:Nat):Int) - 1)=(d:Int):=by rw [w64 (by omega) (by omega)];omega
     show some ((⟨r.map tokT,L,0,0,IntKind.i64.wrap (((d+1:Nat):Int) - 1),i⟩:z00),_)=_
     rw [hw]
     simp only [mkE,cE,cEs];rfl
   | false =>
    simp only [Bool.false_eq_true,if_false]
    cases h2:z6j (ByteArray.mk #[40]) ts with
    | true =>
     have hlt:ts.tail.length≤2000:=by have:=z6s h2;omega
     simp only [if_true]
     refine TP.up (H:=2*f+1) (x:=fun n=>z1m n (PS L ts d i)) rfl (fun n=>by simp only [z0s,zje,h1,h2,Option.bind_eq_bind,Option.bind_some,if_true,Bool.false_eq_true,if_false,zn6]) ?_
     by_cases h24:d=24
     ·rw [if_pos h24]
      refine TP.up (H:=2*f) (x:=fun _=>some (⟨ts.map tokT,L,6,sAt L ts,d,i⟩,zA)) rfl (fun n=>by simp only [z1m,zq9 hd,if_pos h24,Option.bind_eq_bind,Option.bind_some];rfl) ?_
      exact TP.err (fun n=>rfl) (by decide) ⟨rfl,rfl⟩
     ·rw [if_neg h24]
      refine TP.up (H:=2*f) (x:=fun n=>z1l n (PS L ts.tail ((d+1:Nat):Int) i)>>=fun v3=>z08 v3.1 (ByteArray.mk #[41])>>=fun v4=>some ((z00.mk v4.f_l v4.f_end v4.f_e v4.f_at (IntKind.i64.wrap (v4.f_deep - 1)) v4.f_in),v3.2)) rfl (fun n=>by
       simp only [z1m,zq9 hd,if_neg h24,Option.bind_eq_bind,Option.bind_some,Bool.not_true,Bool.false_eq_true,if_false,zvf hl,h2,if_true]) ?_
      refine TP.bind (ih.exp (d+1) ts.tail (by omega) hlt) (fun v r hv=>?_) (fun r c p hc he=>zlg (r:=((⟨r.1.f_l,r.1.f_end,r.1.f_e,r.1.f_at,IntKind.i64.wrap (r.1.f_deep - 1),r.1.f_in⟩:z00),r.2)) (fun n=>.inl (by rw [zf8 (z5n hc he)];rfl)) ⟨he.1,he.2⟩)
      have hr:=(sf.exp _ _ _ _ hv).length_le
      refine TP.bind (π':=Prod.fst) (mk':=mkE) (k:=fun n v4=>some ((z00.mk v4.f_l v4.f_end v4.f_e v4.f_at (IntKind.i64.wrap (v4.f_deep - 1)) v4.f_in),cE v)) (z96 (L:=L) (d:=((d+1:Nat):Int)) (i:=i) (ts:=r) (H:=2*f) (by omega) (ByteArray.mk #[41])) (fun _ r' hv'=>TP.pure (fun n=>?_)) (fun r c p hc he=>zlg (fun n=>.inl rfl) ⟨he.1,he.2⟩)
      have hw:IntKind.i64.wrap (((d+1:Nat):Int) - 1)=(d:Int):=by rw [w64 (by omega) (by omega)];omega
      show some ((⟨r'.map tokT,L,0,0,IntKind.i64.wrap (((d+1:Nat):Int) - 1),i⟩:z00),_)=_
      rw [hw];rfl
    | false =>
     simp only [Bool.false_eq_true,if_false]
     cases h3:sOf 2 ts with
     | true =>
      simp only [if_true]
      refine (TP.up (H:=2*f) (x:=fun n=>z2i (PS L ts d i)>>=fun v6=>some (v6.1,(z06.mk 1 v6.2 (ByteArray.mk #[]) []))) rfl (fun n=>by simp only [z0s,zje,of_P,h1,h2,h3,Option.bind_eq_bind,Option.bind_some,if_true,Bool.false_eq_true,if_false]) ?_).mono (by omega)
      refine TP.bind (z026 hl) (fun v r hv=>TP.pure (fun n=>?_)) (fun r c p hc he=>zlg (fun n=>.inl rfl) ⟨he.1,he.2⟩)
      simp only [mkE,cE,cEs]
     | false =>
      simp only [Bool.false_eq_true,if_false]
      refine (TP.up (H:=2*f) (x:=fun n=>z0o (PS L ts d i)>>=fun v7=>some (v7.1,(z06.mk 2 0 v7.2 []))) rfl (fun n=>by simp only [z0s,zje,of_P,h1,h2,h3,Option.bind_eq_bind,Option.bind_some,Bool.false_eq_true,if_false]) ?_).mono (by omega)
      refine TP.bind (zdx hl) (fun v r hv=>TP.pure (fun n=>?_)) (fun r c p hc he=>zlg (fun n=>.inl rfl) ⟨he.1,he.2⟩)
      simp only [mkE,cE,cEs]
  ·-- products
   simp only [sMul]
   cases hs:za0 mulS ts with
   | none=>exact TP.pure (fun n=>by rw [z08v hl,hs])
   | some j =>
    have hlt:=(zbj hs).1
    refine (TP.eq (y:=fun n=>z0s n (PS L ts.tail d i)>>=fun v=>MF n v.1 ⟨6+(j:Int),0,ByteArray.mk #[],[cE e,v.2]⟩) ?_ (fun n=>by rw [z08v hl,hs])).mono (show 2*f≤2*(f+1) by omega)
    refine TP.bind (ih.fac d ts.tail hd (by omega)) (fun v r hv=>?_) (fun r c p hc he=>zlg (fun n=>.inl (MF_e (z5n hc he) n _)) ⟨he.1,he.2⟩)
    have hr:=(sf.fac _ _ _ _ hv).length_le
    have:=ih.mul d ⟨6+(j:Int),0,ByteArray.mk #[],[e,v]⟩ r hd (by omega)
    simp only [cE,cEs] at this
    exact this
  ·-- a term
   simp only [zou]
   refine TP.up (H:=2*f+1) (x:=fun n=>z0g n (PS L ts d i) mulS 6) rfl (fun n=>by simp only [z1g,Option.bind_eq_bind,zn6];rfl) ?_
   refine TP.up (H:=2*f) (x:=fun n=>z0s n (PS L ts d i)>>=fun v1=>MF n v1.1 v1.2) rfl (fun n=>rfl) ?_
   refine TP.bind (ih.fac d ts hd hl) (fun v r hv=>?_) (fun r c p hc he=>zlg (fun n=>.inl (MF_e (z5n hc he) n _)) ⟨he.1,he.2⟩)
   have hr:=(sf.fac _ _ _ _ hv).length_le
   exact ih.mul d v r hd (by omega)
  ·-- sums
   simp only [sAdd]
   cases hs:za0 addS ts with
   | none=>exact TP.pure (fun n=>by rw [z08w hl,hs])
   | some j =>
    have hlt:=(zbj hs).1
    refine (TP.eq (y:=fun n=>z1g n (PS L ts.tail d i)>>=fun v=>AF n v.1 ⟨4+(j:Int),0,ByteArray.mk #[],[cE e,v.2]⟩) ?_ (fun n=>by rw [z08w hl,hs])).mono (show 2*f≤2*(f+1) by omega)
    refine TP.bind (ih.term d ts.tail hd (by omega)) (fun v r hv=>?_) (fun r c p hc he=>zlg (fun n=>.inl (AF_e (z5n hc he) n _)) ⟨he.1,he.2⟩)
    have hr:=(sf.term _ _ _ _ hv).length_le
    have:=ih.add d ⟨4+(j:Int),0,ByteArray.mk #[],[e,v]⟩ r hd (by omega)
    simp only [cE,cEs] at this
    exact this
  ·-- an expression
   simp only [zot]
   refine TP.up (H:=2*f+1) (x:=fun n=>z0i n (PS L ts d i) addS 4) rfl (fun n=>by simp only [z1l,Option.bind_eq_bind,zn6];rfl) ?_
   refine TP.up (H:=2*f) (x:=fun n=>z1g n (PS L ts d i)>>=fun v1=>AF n v1.1 v1.2) rfl (fun n=>rfl) ?_
   refine TP.bind (ih.term d ts hd hl) (fun v r hv=>?_) (fun r c p hc he=>zlg (fun n=>.inl (AF_e (z5n hc he) n _)) ⟨he.1,he.2⟩)
   have hr:=(sf.term _ _ _ _ hv).length_le
   exact ih.add d v r hd (by omega)
theorem z1d {α β:Type} {o:Rs α} {k:α→List Tok→Rs β} (h:o.bind k=.out):o=.out∨∃ w s,o=.ok w s∧k w s=.out:=by
 cases o with
 | ok w s=>exact .inr ⟨w,s,rfl,h⟩
 | er c p=>cases h
 | out=>exact .inl rfl
theorem z70 {L:Int} {w:ByteArray} {ts:List Tok}:zap L w ts≠.out:=by unfold zap;split <;> simp
theorem zaq {L:Int} {ts:List Tok}:zeg L ts≠.out:=by
 cases ts with
 | nil=>simp [zeg]
 | cons t r=>simp only [zeg];split <;> simp
theorem zvg {L:Int} {ts:List Tok}:sNum L ts≠.out:=by
 cases ts with
 | nil=>simp [sNum]
 | cons t r=>simp only [sNum];split <;> simp
structure Fu (L:Int) (f:Nat):Prop where
 fac:∀ d ts,4*ts.length+1≤f→zf7 L f d ts≠.out
 mul:∀ d e ts,4*ts.length+1≤f→sMul L f d e ts≠.out
 term:∀ d ts,4*ts.length+2≤f→zou L f d ts≠.out
 add:∀ d e ts,4*ts.length+2≤f→sAdd L f d e ts≠.out
 exp:∀ d ts,4*ts.length+3≤f→zot L f d ts≠.out
theorem fu (L:Int):∀ f,Fu L f:=by
 intro f
 induction f with
 | zero=>exact ⟨fun d ts h=>by omega,fun d e ts h=>by omega,fun d ts h=>by omega,fun d e ts h=>by omega,fun d ts h=>by omega⟩
 | succ f ih =>
  have sf:=suf L f
  refine ⟨fun d ts hf h=>?_,fun d e ts hf h=>?_,fun d ts hf h=>?_,fun d e ts hf h=>?_,fun d ts hf h=>?_⟩
  ·simp only [zf7] at h
   split at h
   ·rename_i h1
    have:=z6s h1
    split at h
    ·cases h
    ·rcases z1d h with h|⟨w,s,h2,h3⟩
     ·exact ih.fac _ _ (by omega) h
     ·cases h3
   ·split at h
    ·rename_i h1
     have:=z6s h1
     split at h
     ·cases h
     ·rcases z1d h with h|⟨w,s,h2,h3⟩
      ·exact ih.exp _ _ (by omega) h
      ·rcases z1d h3 with h|⟨w,s,h4,h5⟩
       ·exact z70 h
       ·cases h5
    ·split at h
     ·rcases z1d h with h|⟨w,s,h2,h3⟩
      ·exact zvg h
      ·cases h3
     ·rcases z1d h with h|⟨w,s,h2,h3⟩
      ·exact zaq h
      ·cases h3
  ·simp only [sMul] at h
   split at h
   ·cases h
   ·rename_i j hj
    have:=(zbj hj).1
    rcases z1d h with h|⟨w,s,h2,h3⟩
    ·exact ih.fac _ _ (by omega) h
    ·have:=(sf.fac _ _ _ _ h2).length_le
     exact ih.mul _ _ _ (by omega) h3
  ·simp only [zou] at h
   rcases z1d h with h|⟨w,s,h2,h3⟩
   ·exact ih.fac _ _ (by omega) h
   ·have:=(sf.fac _ _ _ _ h2).length_le
    exact ih.mul _ _ _ (by omega) h3
  ·simp only [sAdd] at h
   split at h
   ·cases h
   ·rename_i j hj
    have:=(zbj hj).1
    rcases z1d h with h|⟨w,s,h2,h3⟩
    ·exact ih.term _ _ (by omega) h
    ·have:=(sf.term _ _ _ _ h2).length_le
     exact ih.add _ _ _ (by omega) h3
  ·simp only [zot] at h
   rcases z1d h with h|⟨w,s,h2,h3⟩
   ·exact ih.term _ _ (by omega) h
   ·have:=(sf.term _ _ _ _ h2).length_le
    exact ih.add _ _ _ (by omega) h3
section
variable (L:Int)
def eX (ts:List Tok):Rs z31:=zot L (4*ts.length+3) 0 ts
def cmpS:List ByteArray:=[(ByteArray.mk #[61,61]),(ByteArray.mk #[33,61]),(ByteArray.mk #[60]),(ByteArray.mk #[60,61]),(ByteArray.mk #[62]),(ByteArray.mk #[62,61])]
def zqa (ts:List Tok):Rs zat:=(zap L (ByteArray.mk #[40]) ts).bind fun _ r1=>(eX L r1).bind fun l r2=>match za0 cmpS r2 with
 | none=>.er 5 (sAt L r2)
 | some j=>(eX L r2.tail).bind fun r r3=>(zap L (ByteArray.mk #[41]) r3).bind fun _ r4=>.ok ⟨1+(j:Int),l,r⟩ r4
abbrev nB:ByteArray:=ByteArray.mk #[]
def ztp (ts:List Tok):Rs z16:=(zeg L ts).bind fun n r1=>(zap L (ByteArray.mk #[46]) r1).bind fun _ r2=>(zeg L r2).bind fun t r3=>(zap L (ByteArray.mk #[40]) r3).bind fun _ r4 =>
 (eX L r4).bind fun e r5=>(zap L (ByteArray.mk #[41]) r5).bind fun _ r6=>(zap L (ByteArray.mk #[59]) r6).bind fun _ r7=>.ok (.mk 4 n t e zC [] [] []) r7
def zkb (ts:List Tok):Rs z16:=(zqa L ts).bind fun c r1=>(zap L (ByteArray.mk #[59]) r1).bind fun _ r2=>.ok (.mk 6 nB nB zE c [] [] []) r2
def zo9 (ts:List Tok):Rs z16:=(zeg L ts).bind fun n r1=>(zap L (ByteArray.mk #[59]) r1).bind fun _ r2=>.ok (.mk 7 n nB zE zC [] [] []) r2
def zkc (ts:List Tok):Rs z16:=(zeg L ts).bind fun n r1=>(zap L (ByteArray.mk #[61]) r1).bind fun _ r2=>(eX L r2).bind fun e r3=>(zap L (ByteArray.mk #[59]) r3).bind fun _ r4=>.ok (.mk 1 n nB e zC [] [] []) r4
end
section
variable {L:Int} {ts r:List Tok}
theorem z02b:eX L ts≠.out:=(fu L _).exp _ _ (Nat.le_refl _)
theorem zmu {v:z31} (h:eX L ts=.ok v r):r <:+ ts:=(suf L _).exp _ _ _ _ h
theorem ztq:zqa L ts≠.out:=fun h=>by
 unfold zqa at h
 rcases z1d h with h|⟨_,r1,_,h⟩
 ·exact z70 h
 rcases z1d h with h|⟨l,r2,_,h⟩
 ·exact z02b h
 split at h
 ·cases h
 rcases z1d h with h|⟨_,r3,_,h⟩
 ·exact z02b h
 rcases z1d h with h|⟨_,r4,_,h⟩
 ·exact z70 h
 ·cases h
theorem zft {v:zat} (h:zqa L ts=.ok v r):r <:+ ts∧r.length<ts.length:=by
 unfold zqa at h
 obtain ⟨_,r1,h1,h⟩:=bind_ok h
 obtain ⟨l,r2,h2,h⟩:=bind_ok h
 split at h
 ·cases h
 obtain ⟨e,r3,h3,h⟩:=bind_ok h
 obtain ⟨_,r4,h4,h⟩:=bind_ok h
 injection h with _ h;subst h
 have q1:=z34 h1
 have q2:=zmu h2
 have q3:=zmu h3
 have q4:=z34 h4
 have q:=q4.1.trans (q3.trans ((List.tail_suffix r2).trans q2))
 exact ⟨q.trans q1.1,by have:=q.length_le;omega⟩
theorem z062:ztp L ts≠.out:=fun h=>by
 unfold ztp at h
 rcases z1d h with h|⟨_,_,_,h⟩
 ·exact zaq h
 rcases z1d h with h|⟨_,_,_,h⟩
 ·exact z70 h
 rcases z1d h with h|⟨_,_,_,h⟩
 ·exact zaq h
 rcases z1d h with h|⟨_,_,_,h⟩
 ·exact z70 h
 rcases z1d h with h|⟨_,_,_,h⟩
 ·exact z02b h
 rcases z1d h with h|⟨_,_,_,h⟩
 ·exact z70 h
 rcases z1d h with h|⟨_,_,_,h⟩
 ·exact z70 h
 ·cases h
theorem z02c {v:z16} (h:ztp L ts=.ok v r):r <:+ ts:=by
 unfold ztp at h
 obtain ⟨_,r1,h1,h⟩:=bind_ok h
 obtain ⟨_,r2,h2,h⟩:=bind_ok h
 obtain ⟨_,r3,h3,h⟩:=bind_ok h
 obtain ⟨_,r4,h4,h⟩:=bind_ok h
 obtain ⟨_,r5,h5,h⟩:=bind_ok h
 obtain ⟨_,r6,h6,h⟩:=bind_ok h
 obtain ⟨_,r7,h7,h⟩:=bind_ok h
 injection h with _ h;subst h
 exact (z34 h7).1.trans ((z34 h6).1.trans ((zmu h5).trans ((z34 h4).1.trans ((z4l h3).1.trans ((z34 h2).1.trans (z4l h1).1)))))
theorem z005:zkb L ts≠.out:=fun h=>by
 unfold zkb at h
 rcases z1d h with h|⟨_,_,_,h⟩
 ·exact ztq h
 rcases z1d h with h|⟨_,_,_,h⟩
 ·exact z70 h
 ·cases h
theorem zxf {v:z16} (h:zkb L ts=.ok v r):r <:+ ts:=by
 unfold zkb at h
 obtain ⟨_,r1,h1,h⟩:=bind_ok h
 obtain ⟨_,r2,h2,h⟩:=bind_ok h
 injection h with _ h;subst h
 exact (z34 h2).1.trans (zft h1).1
theorem z02d:zo9 L ts≠.out:=fun h=>by
 unfold zo9 at h
 rcases z1d h with h|⟨_,_,_,h⟩
 ·exact zaq h
 rcases z1d h with h|⟨_,_,_,h⟩
 ·exact z70 h
 ·cases h
theorem z006 {v:z16} (h:zo9 L ts=.ok v r):r <:+ ts:=by
 unfold zo9 at h
 obtain ⟨_,r1,h1,h⟩:=bind_ok h
 obtain ⟨_,r2,h2,h⟩:=bind_ok h
 injection h with _ h;subst h
 exact (z34 h2).1.trans (z4l h1).1
theorem z007:zkc L ts≠.out:=fun h=>by
 unfold zkc at h
 rcases z1d h with h|⟨_,_,_,h⟩
 ·exact zaq h
 rcases z1d h with h|⟨_,_,_,h⟩
 ·exact z70 h
 rcases z1d h with h|⟨_,_,_,h⟩
 ·exact z02b h
 rcases z1d h with h|⟨_,_,_,h⟩
 ·exact z70 h
 ·cases h
theorem zxg {v:z16} (h:zkc L ts=.ok v r):r <:+ ts∧r.length<ts.length:=by
 unfold zkc at h
 obtain ⟨_,r1,h1,h⟩:=bind_ok h
 obtain ⟨_,r2,h2,h⟩:=bind_ok h
 obtain ⟨_,r3,h3,h⟩:=bind_ok h
 obtain ⟨_,r4,h4,h⟩:=bind_ok h
 injection h with _ h;subst h
 have q1:=z4l h1
 have q:=(z34 h4).1.trans ((zmu h3).trans (z34 h2).1)
 exact ⟨q.trans q1.1,by have:=q.length_le;omega⟩
end
theorem z02e {a:z00} (h:a.f_e≠0):z25 a [(ByteArray.mk #[61,61]),(ByteArray.mk #[33,61]),(ByteArray.mk #[60]),(ByteArray.mk #[60,61]),(ByteArray.mk #[62]),(ByteArray.mk #[62,61])]=some (a,-1):=z004 h _ (by decide)
instance:Inhabited z00:=⟨⟨[],0,0,0,0,0⟩⟩
instance:Inhabited z06:=⟨zA⟩
instance:Inhabited z4j:=⟨⟨0,zA,zA⟩⟩
def zCA:z4j:=⟨0,zA,zA⟩
def zSA:z05:=.mk 0 nB nB zA zCA [] [] []
instance:Inhabited z05:=⟨zSA⟩
instance:Inhabited ByteArray:=⟨nB⟩
theorem z4w {ρ:Type} {P:ρ→Prop} {x:Option ρ} {H:Nat} {r:ρ} (e:x=some r) (p:P r):∃ r,P r∧∀ n,Sn n H x r:=⟨r,p,fun _=>.inl e⟩
theorem eP {a:z00} (h:a.f_e≠0):(∀ w,z08 a w=some a)∧z0o a=some (a,ByteArray.mk #[])∧z2i a=some (a,0)∧z62 a=some (a,vA)∧(∀ w,z0r a w=some (a,false))∧(∀ c,z2q a c=some a)∧z25 a [(ByteArray.mk #[61,61]),(ByteArray.mk #[33,61]),(ByteArray.mk #[60]),(ByteArray.mk #[60,61]),(ByteArray.mk #[62]),(ByteArray.mk #[62,61])]=some (a,-1):=⟨zf8 h,zpe h,z08s h,z08u h,zid h,zpd h,z02e h⟩
theorem neg1:decide ((-1:Int)<0)=true:=rfl
theorem zvh {L i:Int} {ts:List Tok} {H:Nat} (hl:ts.length≤2000):TP L 0 i Prod.fst mkE H (fun _=>z62 (PS L ts 0 i)) (eX L ts) :=
 ((px L i _).exp 0 ts (by omega) hl).unf.mono (Nat.zero_le _)
abbrev mkC:zat→z00→z00 × z4j:=fun v a=>(a,cC v)
theorem z58 {r ts:List Tok} (h:r <:+ ts) (hl:ts.length≤2000):r.length≤2000:=by have:=h.length_le;omega
theorem z008 {L i:Int} {ts:List Tok} {H:Nat} (hl:ts.length≤2000):TP L 0 i Prod.fst mkC H (fun _=>z63 (PS L ts 0 i)) (zqa L ts):=by
 unfold zqa z63
 refine TP.bind (π':=Prod.fst) (mk':=mkC) (z96 hl _) (fun _ r1 h1=>?_) (fun r c p hc he=>z4w (by simp only [eP (a:=r) (z5n hc he),Option.bind_eq_bind,Option.bind_some,neg1,if_true];rfl) ⟨he.1,he.2⟩)
 have l1:=z58 (z34 h1).1 hl
 refine TP.bind (π':=Prod.fst) (mk':=mkC) (zvh l1) (fun l r2 h2=>?_) (fun r c p hc he=>z4w (by simp only [eP (a:=r.1) (z5n hc he),Option.bind_eq_bind,Option.bind_some,neg1,if_true];rfl) ⟨he.1,he.2⟩)
 have l2:=z58 (zmu h2) l1
 have hw:=zq8 (L:=L) (d:=0) (i:=i) l2 cmpS (by decide)
 cases hs:za0 cmpS r2 with
 | none =>
  rw [hs] at hw
  refine TP.err (r:=((⟨r2.map tokT,L,5,sAt L r2,0,i⟩:z00),⟨0,cE l,zA⟩)) (fun n=>?_) (by decide) ⟨rfl,rfl⟩
  show (z25 (PS L r2 0 i) cmpS).bind _=_
  rw [hw]
  simp only [Option.bind_some,neg1,if_true,zo8,Option.bind_eq_bind]
  rfl
 | some j =>
  rw [hs] at hw
  have hj:=(zbj hs).2
  have hj:j<6:=hj
  have q1:decide (((j:Nat):Int)<0)=false:=by simp
  have q2:IntKind.i64.wrap (1+(j:Int))=1+(j:Int):=w64 (by omega) (by omega)
  have l3:r2.tail.length≤2000:=by have:=(zbj hs).1;omega
  refine TP.eq (y:=fun _=>z62 (PS L r2.tail 0 i)>>=fun v5=>z08 v5.1 (ByteArray.mk #[41])>>=fun v6=>some (v6,(z4j.mk (1+(j:Int)) (cE l) v5.2))) ?_ (fun n=>by
   show (z25 (PS L r2 0 i) cmpS).bind _=_
   rw [hw]
   simp only [Option.bind_some,q1,Bool.false_eq_true,if_false,q2])
  refine TP.bind (π':=Prod.fst) (mk':=mkC) (zvh l3) (fun e r3 h3=>?_) (fun r c p hc he=>z4w (by simp only [eP (a:=r.1) (z5n hc he),Option.bind_eq_bind,Option.bind_some,neg1,if_true];rfl) ⟨he.1,he.2⟩)
  have l4:=z58 (zmu h3) l3
  refine TP.bind (π':=Prod.fst) (mk':=mkC) (z96 l4 _) (fun _ r4 h4=>TP.pure (fun n=>rfl)) (fun r c p hc he=>z4w (by simp only [eP (a:=r) (z5n hc he),Option.bind_eq_bind,Option.bind_some,neg1,if_true];rfl) ⟨he.1,he.2⟩)
abbrev mkS:z16→z00→z00 × z05:=fun v a=>(a,cS v)
theorem cZ:cE zE=zA:=by simp only [zE,cE,cEs];rfl
theorem cZC:cC zC=zCA:=by unfold cC zC zCA;simp only [cZ]
theorem z08x {L i:Int} {ts:List Tok} {H:Nat} (hl:ts.length≤2000):TP L 0 i Prod.fst mkS H (fun _=>z88 (PS L ts 0 i)) (ztp L ts):=by
 unfold ztp z88
 refine TP.bind (π':=Prod.fst) (mk':=mkS) (zdx hl) (fun n r1 h1=>?_) (fun r c p hc he=>z4w (by simp only [eP (a:=r.1) (z5n hc he),Option.bind_eq_bind,Option.bind_some,neg1,if_true];rfl) ⟨he.1,he.2⟩)
 have l1:=z58 (z4l h1).1 hl
 refine TP.bind (π':=Prod.fst) (mk':=mkS) (z96 l1 _) (fun _ r2 h2=>?_) (fun r c p hc he=>z4w (by simp only [eP (a:=r) (z5n hc he),Option.bind_eq_bind,Option.bind_some,neg1,if_true];rfl) ⟨he.1,he.2⟩)
 have l2:=z58 (z34 h2).1 l1
 refine TP.bind (π':=Prod.fst) (mk':=mkS) (zdx l2) (fun t r3 h3=>?_) (fun r c p hc he=>z4w (by simp only [eP (a:=r.1) (z5n hc he),Option.bind_eq_bind,Option.bind_some,neg1,if_true];rfl) ⟨he.1,he.2⟩)
 have l3:=z58 (z4l h3).1 l2
 refine TP.bind (π':=Prod.fst) (mk':=mkS) (z96 l3 _) (fun _ r4 h4=>?_) (fun r c p hc he=>z4w (by simp only [eP (a:=r) (z5n hc he),Option.bind_eq_bind,Option.bind_some,neg1,if_true];rfl) ⟨he.1,he.2⟩)
 have l4:=z58 (z34 h4).1 l3
 refine TP.bind (π':=Prod.fst) (mk':=mkS) (zvh l4) (fun e r5 h5=>?_) (fun r c p hc he=>z4w (by simp only [eP (a:=r.1) (z5n hc he),Option.bind_eq_bind,Option.bind_some,neg1,if_true];rfl) ⟨he.1,he.2⟩)
 have l5:=z58 (zmu h5) l4
 refine TP.bind (π':=Prod.fst) (mk':=mkS) (z96 l5 _) (fun _ r6 h6=>?_) (fun r c p hc he=>z4w (by simp only [eP (a:=r) (z5n hc he),Option.bind_eq_bind,Option.bind_some,neg1,if_true];rfl) ⟨he.1,he.2⟩)
 have l6:=z58 (z34 h6).1 l5
 refine TP.bind (π':=Prod.fst) (mk':=mkS) (z96 l6 _) (fun _ r7 h7=>TP.pure (fun n=>?_)) (fun r c p hc he=>z4w (by simp only [eP (a:=r) (z5n hc he),Option.bind_eq_bind,Option.bind_some,neg1,if_true];rfl) ⟨he.1,he.2⟩)
 simp only [mkS,cS,cZC,cL,cA]
 rfl
theorem z02f {L i:Int} {ts:List Tok} {H:Nat} (hl:ts.length≤2000):TP L 0 i Prod.fst mkS H (fun _=>z7e (PS L ts 0 i)) (zkb L ts):=by
 unfold zkb z7e
 refine TP.bind (π':=Prod.fst) (mk':=mkS) (z008 hl) (fun n r1 h1=>?_) (fun r c p hc he=>z4w (by simp only [eP (a:=r.1) (z5n hc he),Option.bind_eq_bind,Option.bind_some,neg1,if_true];rfl) ⟨he.1,he.2⟩)
 have l1:=z58 (zft h1).1 hl
 refine TP.bind (π':=Prod.fst) (mk':=mkS) (z96 l1 _) (fun _ r2 h2=>TP.pure (fun n=>?_)) (fun r c p hc he=>z4w (by simp only [eP (a:=r) (z5n hc he),Option.bind_eq_bind,Option.bind_some,neg1,if_true];rfl) ⟨he.1,he.2⟩)
 simp only [mkS,cS,cZ,cL,cA]
 rfl
theorem z063 {L i:Int} {ts:List Tok} {H:Nat} (hl:ts.length≤2000):TP L 0 i Prod.fst mkS H (fun _=>z7r (PS L ts 0 i)) (zo9 L ts):=by
 unfold zo9 z7r
 refine TP.bind (π':=Prod.fst) (mk':=mkS) (zdx hl) (fun n r1 h1=>?_) (fun r c p hc he=>z4w (by simp only [eP (a:=r.1) (z5n hc he),Option.bind_eq_bind,Option.bind_some,neg1,if_true];rfl) ⟨he.1,he.2⟩)
 have l1:=z58 (z4l h1).1 hl
 refine TP.bind (π':=Prod.fst) (mk':=mkS) (z96 l1 _) (fun _ r2 h2=>TP.pure (fun n=>?_)) (fun r c p hc he=>z4w (by simp only [eP (a:=r) (z5n hc he),Option.bind_eq_bind,Option.bind_some,neg1,if_true];rfl) ⟨he.1,he.2⟩)
 simp only [mkS,cS,cZ,cZC,cL,cA]
 rfl
theorem z02g {L i:Int} {ts:List Tok} {H:Nat} (hl:ts.length≤2000):TP L 0 i Prod.fst mkS H (fun _=>z7f (PS L ts 0 i)) (zkc L ts):=by
 unfold zkc z7f
 refine TP.bind (π':=Prod.fst) (mk':=mkS) (zdx hl) (fun n r1 h1=>?_) (fun r c p hc he=>z4w (by simp only [eP (a:=r.1) (z5n hc he),Option.bind_eq_bind,Option.bind_some,neg1,if_true];rfl) ⟨he.1,he.2⟩)
 have l1:=z58 (z4l h1).1 hl
 refine TP.bind (π':=Prod.fst) (mk':=mkS) (z96 l1 _) (fun _ r2 h2=>?_) (fun r c p hc he=>z4w (by simp only [eP (a:=r) (z5n hc he),Option.bind_eq_bind,Option.bind_some,neg1,if_true];rfl) ⟨he.1,he.2⟩)
 have l2:=z58 (z34 h2).1 l1
 refine TP.bind (π':=Prod.fst) (mk':=mkS) (zvh l2) (fun e r3 h3=>?_) (fun r c p hc he=>z4w (by simp only [eP (a:=r.1) (z5n hc he),Option.bind_eq_bind,Option.bind_some,neg1,if_true];rfl) ⟨he.1,he.2⟩)
 have l3:=z58 (zmu h3) l2
 refine TP.bind (π':=Prod.fst) (mk':=mkS) (z96 l3 _) (fun _ r4 h4=>TP.pure (fun n=>?_)) (fun r c p hc he=>z4w (by simp only [eP (a:=r) (z5n hc he),Option.bind_eq_bind,Option.bind_some,neg1,if_true];rfl) ⟨he.1,he.2⟩)
 simp only [mkS,cS,cZC,cL,cA]
 rfl
section
variable {a:z00} (h:a.f_e≠0)
include h
end
section
variable (L:Int)
mutual
def zhe:Nat→Nat→List Tok→Rs (List z16)
 | 0,_,_=>.out
 | f+1,i,ts=>match zov f i ts with
  | none=>.ok [] ts
  | some o=>o.bind fun s r=>(zhe f i r).bind fun l r'=>.ok (s::l) r'
def zov:Nat→Nat→List Tok→Option (Rs z16)
 | 0,_,_=>some .out
 | f+1,i,ts =>
  if z6j (ByteArray.mk #[105,102]) ts then some ((zqa L ts.tail).bind fun c r1=>(zhf f i r1).bind fun b r2 =>
   if z6j (ByteArray.mk #[101,108,115,101]) r2 then (zhf f i r2.tail).bind fun l r3=>.ok (.mk 2 nB nB zE c b l []) r3 else .ok (.mk 2 nB nB zE c b [] []) r2)
  else if z6j (ByteArray.mk #[119,104,105,108,101]) ts then some ((zqa L ts.tail).bind fun c r1=>(zhf f i r1).bind fun b r2=>.ok (.mk 3 nB nB zE c b [] []) r2)
  else if z6j (ByteArray.mk #[115,101,110,100]) ts then some (ztp L ts.tail)
  else if z6j (ByteArray.mk #[114,101,99,118]) ts then some ((zeg L ts.tail).bind fun n r1=>(zap L (ByteArray.mk #[123]) r1).bind fun _ r2=>(sArm f i r2).bind fun a r3=>(zmj f i r3).bind fun l r4 =>
   (zap L (ByteArray.mk #[125]) r4).bind fun _ r5=>.ok (.mk 5 n nB zE zC [] [] (a::l)) r5)
  else if z6j (ByteArray.mk #[97,115,115,101,114,116]) ts then some (zkb L ts.tail)
  else if z6j (ByteArray.mk #[105,110,112,117,116]) ts then some (zo9 L ts.tail)
  else if sOf 1 ts then some (zkc L ts)
  else none
def sArm:Nat→Nat→List Tok→Rs z6k
 | 0,_,_=>.out
 | f+1,i,ts=>(zeg L ts).bind fun t r1=>(zap L (ByteArray.mk #[40]) r1).bind fun _ r2=>(zeg L r2).bind fun v r3=>(zap L (ByteArray.mk #[41]) r3).bind fun _ r4=>(zhf f i r4).bind fun b r5=>.ok (.mk t v b) r5
def zmj:Nat→Nat→List Tok→Rs (List z6k)
 | 0,_,_=>.out
 | f+1,i,ts=>if z6j (ByteArray.mk #[125]) ts then .ok [] ts else (sArm f i ts).bind fun a r=>(zmj f i r).bind fun l r'=>.ok (a::l) r'
def zhf:Nat→Nat→List Tok→Rs (List z16)
 | 0,_,_=>.out
 | f+1,i,ts=>if z6j (ByteArray.mk #[123]) ts&&decide (i=24) then .er 6 (sAt L ts)
  else (zap L (ByteArray.mk #[123]) ts).bind fun _ r1=>(zhe f (i+1) r1).bind fun b r2=>(zap L (ByteArray.mk #[125]) r2).bind fun _ r3=>.ok b r3
end
end
structure SufS (L:Int) (f:Nat):Prop where
 stmts:∀ i ts v r,zhe L f i ts=.ok v r→r <:+ ts
 stmt:∀ i ts v r,zov L f i ts=some (.ok v r)→r <:+ ts∧r.length<ts.length
 arm:∀ i ts v r,sArm L f i ts=.ok v r→r <:+ ts∧r.length<ts.length
 arms:∀ i ts v r,zmj L f i ts=.ok v r→r <:+ ts
 block:∀ i ts v r,zhf L f i ts=.ok v r→r <:+ ts
theorem ztr {r s ts:List Tok} (h:r <:+ s) (q:s <:+ ts) (w:s.length<ts.length):r <:+ ts∧r.length<ts.length:=⟨h.trans q,by have:=h.length_le;omega⟩
theorem zbp {w:ByteArray} {r ts:List Tok} (h:z6j w ts=true) (q:r <:+ ts.tail):r <:+ ts∧r.length<ts.length:=ztr q (List.tail_suffix ts) (z6s h)
theorem sufS (L:Int):∀ f,SufS L f:=by
 intro f
 induction f with
 | zero=>exact ⟨fun i ts v r h=>by simp [zhe] at h,fun i ts v r h=>by simp [zov] at h,fun i ts v r h=>by simp [sArm] at h,fun i ts v r h=>by simp [zmj] at h,fun i ts v r h=>by simp [zhf] at h⟩
 | succ f ih =>
  refine ⟨fun i ts v r h=>?_,fun i ts v r h=>?_,fun i ts v r h=>?_,fun i ts v r h=>?_,fun i ts v r h=>?_⟩
  ·simp only [zhe] at h
   split at h
   ·injection h with _ h;subst h;exact List.suffix_refl _
   ·rename_i o ho
    obtain ⟨s,r1,h1,h⟩:=bind_ok h
    obtain ⟨l,r2,h2,h⟩:=bind_ok h
    injection h with _ h;subst h
    subst h1
    exact (ih.stmts _ _ _ _ h2).trans (ih.stmt _ _ _ _ ho).1
  ·simp only [zov] at h
   split at h
   ·rename_i hs
    injection h with h
    obtain ⟨c,r1,h1,h⟩:=bind_ok h
    obtain ⟨b,r2,h2,h⟩:=bind_ok h
    have q:=(ih.block _ _ _ _ h2).trans (zft h1).1
    split at h
    ·obtain ⟨l,r3,h3,h⟩:=bind_ok h
     injection h with _ h;subst h
     exact zbp hs ((ih.block _ _ _ _ h3).trans ((List.tail_suffix r2).trans q))
    ·injection h with _ h;subst h
     exact zbp hs q
   split at h
   ·rename_i hs
    injection h with h
    obtain ⟨c,r1,h1,h⟩:=bind_ok h
    obtain ⟨b,r2,h2,h⟩:=bind_ok h
    injection h with _ h;subst h
    exact zbp hs ((ih.block _ _ _ _ h2).trans (zft h1).1)
   split at h
   ·rename_i hs
    injection h with h
    exact zbp hs (z02c h)
   split at h
   ·rename_i hs
    injection h with h
    obtain ⟨n,r1,h1,h⟩:=bind_ok h
    obtain ⟨_,r2,h2,h⟩:=bind_ok h
    obtain ⟨a,r3,h3,h⟩:=bind_ok h
    obtain ⟨l,r4,h4,h⟩:=bind_ok h
    obtain ⟨_,r5,h5,h⟩:=bind_ok h
    injection h with _ h;subst h
    exact zbp hs ((z34 h5).1.trans ((ih.arms _ _ _ _ h4).trans ((ih.arm _ _ _ _ h3).1.trans ((z34 h2).1.trans (z4l h1).1))))
   split at h
   ·rename_i hs
    injection h with h
    exact zbp hs (zxf h)
   split at h
   ·rename_i hs
    injection h with h
    exact zbp hs (z006 h)
   split at h
   ·injection h with h
    exact zxg h
   ·cases h
  ·simp only [sArm] at h
   obtain ⟨n,r1,h1,h⟩:=bind_ok h
   obtain ⟨_,r2,h2,h⟩:=bind_ok h
   obtain ⟨a,r3,h3,h⟩:=bind_ok h
   obtain ⟨_,r4,h4,h⟩:=bind_ok h
   obtain ⟨b,r5,h5,h⟩:=bind_ok h
   injection h with _ h;subst h
   have q:=z4l h1
   exact ztr ((ih.block _ _ _ _ h5).trans ((z34 h4).1.trans ((z4l h3).1.trans (z34 h2).1))) q.1 q.2
  ·simp only [zmj] at h
   split at h
   ·injection h with _ h;subst h;exact List.suffix_refl _
   ·obtain ⟨s,r1,h1,h⟩:=bind_ok h
    obtain ⟨l,r2,h2,h⟩:=bind_ok h
    injection h with _ h;subst h
    exact (ih.arms _ _ _ _ h2).trans (ih.arm _ _ _ _ h1).1
  ·simp only [zhf] at h
   split at h
   ·cases h
   ·obtain ⟨_,r1,h1,h⟩:=bind_ok h
    obtain ⟨b,r2,h2,h⟩:=bind_ok h
    obtain ⟨_,r3,h3,h⟩:=bind_ok h
    injection h with _ h;subst h
    exact (z34 h3).1.trans ((ih.stmts _ _ _ _ h2).trans (z34 h1).1)
structure FuS (L:Int) (f:Nat):Prop where
 stmts:∀ i ts,3*ts.length+2≤f→zhe L f i ts≠.out
 stmt:∀ i ts,3*ts.length+1≤f→zov L f i ts≠some .out
 arm:∀ i ts,3*ts.length+1≤f→sArm L f i ts≠.out
 arms:∀ i ts,3*ts.length+2≤f→zmj L f i ts≠.out
 block:∀ i ts,3*ts.length+1≤f→zhf L f i ts≠.out
theorem fuS (L:Int):∀ f,FuS L f:=by
 intro f
 induction f with
 | zero=>exact ⟨fun i ts h=>by omega,fun i ts h=>by omega,fun i ts h=>by omega,fun i ts h=>by omega,fun i ts h=>by omega⟩
 | succ f ih =>
  have sf:=sufS L f
  refine ⟨fun i ts hf h=>?_,fun i ts hf h=>?_,fun i ts hf h=>?_,fun i ts hf h=>?_,fun i ts hf h=>?_⟩
  ·simp only [zhe] at h
   split at h
   ·cases h
   ·rename_i o ho
    rcases z1d h with h0|⟨s,r1,h1,h0⟩
    ·subst h0;exact ih.stmt _ _ (by omega) ho
    ·subst h1
     have:=(sf.stmt _ _ _ _ ho).2
     rcases z1d h0 with h2|⟨l,r2,h2,h3⟩
     ·exact ih.stmts _ _ (by omega) h2
     ·cases h3
  ·simp only [zov] at h
   split at h
   ·rename_i hs
    have:=z6s hs
    injection h with h
    rcases z1d h with h|⟨c,r1,h1,h⟩
    ·exact ztq h
    have q1:=(zft h1).1.length_le
    rcases z1d h with h|⟨b,r2,h2,h⟩
    ·exact ih.block _ _ (by omega) h
    have q2:=(sf.block _ _ _ _ h2).length_le
    split at h
    ·rename_i he
     have:=z6s he
     rcases z1d h with h|⟨l,r3,h3,h⟩
     ·exact ih.block _ _ (by omega) h
     ·cases h
    ·cases h
   split at h
   ·rename_i hs
    have:=z6s hs
    injection h with h
    rcases z1d h with h|⟨c,r1,h1,h⟩
    ·exact ztq h
    have q1:=(zft h1).1.length_le
    rcases z1d h with h|⟨b,r2,h2,h⟩
    ·exact ih.block _ _ (by omega) h
    ·cases h
   split at h
   ·injection h with h;exact z062 h
   split at h
   ·rename_i hs
    have:=z6s hs
    injection h with h
    rcases z1d h with h|⟨n,r1,h1,h⟩
    ·exact zaq h
    have q1:=(z4l h1).2
    rcases z1d h with h|⟨_,r2,h2,h⟩
    ·exact z70 h
    have q2:=(z34 h2).2
    rcases z1d h with h|⟨a,r3,h3,h⟩
    ·exact ih.arm _ _ (by omega) h
    have q3:=(sf.arm _ _ _ _ h3).2
    rcases z1d h with h|⟨l,r4,h4,h⟩
    ·exact ih.arms _ _ (by omega) h
    rcases z1d h with h|⟨_,r5,h5,h⟩
    ·exact z70 h
    ·cases h
   split at h
   ·injection h with h;exact z005 h
   split at h
   ·injection h with h;exact z02d h
   split at h
   ·injection h with h;exact z007 h
   ·cases h
  ·simp only [sArm] at h
   rcases z1d h with h|⟨t,r1,h1,h⟩
   ·exact zaq h
   have q1:=(z4l h1).2
   rcases z1d h with h|⟨_,r2,h2,h⟩
   ·exact z70 h
   have q2:=(z34 h2).2
   rcases z1d h with h|⟨v,r3,h3,h⟩
   ·exact zaq h
   have q3:=(z4l h3).2
   rcases z1d h with h|⟨_,r4,h4,h⟩
   ·exact z70 h
   have q4:=(z34 h4).2
   rcases z1d h with h|⟨b,r5,h5,h⟩
   ·exact ih.block _ _ (by omega) h
   ·cases h
  ·simp only [zmj] at h
   split at h
   ·cases h
   ·rcases z1d h with h|⟨a,r1,h1,h⟩
    ·exact ih.arm _ _ (by omega) h
    have q1:=(sf.arm _ _ _ _ h1).2
    rcases z1d h with h|⟨l,r2,h2,h⟩
    ·exact ih.arms _ _ (by omega) h
    ·cases h
  ·simp only [zhf] at h
   split at h
   ·cases h
   ·rcases z1d h with h|⟨_,r1,h1,h⟩
    ·exact z70 h
    have q1:=(z34 h1).2
    rcases z1d h with h|⟨b,r2,h2,h⟩
    ·exact ih.stmts _ _ (by omega) h
    rcases z1d h with h|⟨_,r3,h3,h⟩
    ·exact z70 h
    ·cases h
abbrev S7:=List z0m × Int × Int × Int × Int × Int × List z05
abbrev A7:=List z0m × Int × Int × Int × Int × Int × List z1r
def tpS (a:z00) (l:List z05):S7:=(a.f_l,a.f_end,a.f_e,a.f_at,a.f_deep,a.f_in,l)
def tpA (a:z00) (l:List z1r):A7:=(a.f_l,a.f_end,a.f_e,a.f_at,a.f_deep,a.f_in,l)
noncomputable def SB (n:Nat):=z8t (z1c n) (z0y n) (z17 n) (z2d n) (z26 n) (z0t n) (z1j n)
noncomputable def RB (n:Nat):=z6w (z1c n) (z0y n) (z17 n) (z2d n) (z26 n) (z0t n) (z1j n)
noncomputable def SL (n:Nat) (a:z00) (l:List z05):Option (z00 × List z05):=iter (SB n) (tpS a l)>>=Sum.elim (fun r=>some r) (fun _=>none)
noncomputable def AL (n:Nat) (a:z00) (l:List z1r):Option (z00 × List z1r):=iter (RB n) (tpA a l)>>=Sum.elim (fun _=>none) (fun j1=>some (⟨j1.1,j1.2.1,j1.2.2.1,j1.2.2.2.1,j1.2.2.2.2.1,j1.2.2.2.2.2.1⟩,j1.2.2.2.2.2.2))
theorem z08y (n:Nat) (a:z00) (l:List z05):SL n a l=z0y n a>>=fun v1=>if (!v1.2.2) then some (v1.1,l) else app 288 l [v1.2.1]>>=fun v2=>SL n v1.1 v2:=by
 have hb:SB n (tpS a l)=z0y n a>>=fun v1=>if (!v1.2.2) then some (.inr (.inl (v1.1,l))) else app 288 l [v1.2.1]>>=fun v2=>some (.inl (tpS v1.1 v2)):=rfl
 unfold SL
 rw [zcd,hb]
 simp only [Option.bind_eq_bind,Option.bind_assoc]
 congr 1;funext v1
 cases v1.2.2 with
 | false=>rfl
 | true =>
  simp only [Bool.not_true,Bool.false_eq_true,if_false,Option.bind_assoc]
  congr 1
theorem AL_e {a:z00} (h:a.f_e≠0) (n:Nat) (l:List z1r):AL n a l=some (a,l):=by
 unfold AL
 rw [z4r (r:=.inr (tpA a l)) (by
  unfold RB z6w
  rw [if_neg (by simpa [tpA] using h)]
  rfl)]
 rfl
theorem z0ai {L d i:Int} {ts:List Tok} (n:Nat) (l:List z1r):AL n (PS L ts d i) l=if z6j (ByteArray.mk #[125]) ts then some (PS L ts d i,l) else z1j n (PS L ts d i)>>=fun v=>app 56 l [v.2]>>=fun v2=>AL n v.1 v2:=by
 have hb:RB n (tpA (PS L ts d i) l)=if z6j (ByteArray.mk #[125]) ts then some (.inr (.inr (tpA (PS L ts d i) l))) else z1j n (PS L ts d i)>>=fun v=>app 56 l [v.2]>>=fun v2=>some (.inl (tpA v.1 v2)):=by
  unfold RB z6w
  rw [if_pos (by rfl)]
  show ((z3k (PS L ts d i) (ByteArray.mk #[125])>>=fun v5=>some (!v5))>>=_)=_
  rw [zje]
  cases z6j (ByteArray.mk #[125]) ts <;> rfl
 unfold AL
 rw [zcd,hb]
 cases z6j (ByteArray.mk #[125]) ts with
 | true=>rfl
 | false =>
  simp only [Option.bind_eq_bind,Option.bind_assoc,Bool.false_eq_true,if_false]
  congr 1
section
variable {a:z00} (h:a.f_e≠0)
include h
theorem z08z (n:Nat):Sn n 1 (z0y n a) (a,zSA,false):=by
 cases n with
 | zero=>exact .inr ⟨rfl,by omega⟩
 | succ n =>
  refine .inl ?_
  simp only [z0y,zid h,of_e h,Option.bind_eq_bind,Option.bind_some,Bool.false_eq_true,if_false]
  rfl
theorem SL_e (n:Nat) (l:List z05):Sn n 1 (SL n a l) (a,l):=by
 rw [z08y]
 exact Sn.bind (f:=fun v1=>if (!v1.2.2) then some (v1.1,l) else app 288 l [v1.2.1]>>=fun v2=>SL n v1.1 v2) (z08z h n) (.inl rfl)
theorem zts (n:Nat):Sn n 2 (z1c n a) (a,[]):=by
 cases n with
 | zero=>exact .inr ⟨rfl,by omega⟩
 | succ n=>exact (SL_e h n []).up
end
def bE (a:z00):z00:=⟨a.f_l,a.f_end,a.f_e,a.f_at,a.f_deep,IntKind.i64.wrap (IntKind.i64.wrap (a.f_in+1) - 1)⟩
section
variable {a:z00} (h:a.f_e≠0)
include h
theorem zqb (n:Nat):Sn n 3 (z0t n a) (bE a,[]):=by
 cases n with
 | zero=>exact .inr ⟨rfl,by omega⟩
 | succ n =>
  simp only [z0t,z003 h,Option.bind_eq_bind,Option.bind_some,Bool.false_eq_true,if_false,zf8 h]
  refine (Sn.bind (f:=fun v4:z00 × List z05=>(z08 (z00.mk v4.1.f_l v4.1.f_end v4.1.f_e v4.1.f_at v4.1.f_deep (IntKind.i64.wrap (v4.1.f_in - 1))) (ByteArray.mk #[125])).bind fun v5=>some (v5,v4.2)) (zts (a:=⟨a.f_l,a.f_end,a.f_e,a.f_at,a.f_deep,IntKind.i64.wrap (a.f_in+1)⟩) h n) (.inl ?_)).up
  show (z08 (bE a) (ByteArray.mk #[125])).bind _=_
  rw [zf8 (a:=bE a) h];rfl
theorem z0aj (n:Nat):Sn n 4 (z1j n a) (bE a,.mk nB nB []):=by
 cases n with
 | zero=>exact .inr ⟨rfl,by omega⟩
 | succ n =>
  simp only [z1j,zpe h,zf8 h,Option.bind_eq_bind,Option.bind_some]
  exact (Sn.bind (f:=fun v5:z00 × List z05=>some (v5.1,z1r.mk (ByteArray.mk #[]) (ByteArray.mk #[]) v5.2)) (zqb h n) (.inl rfl)).up
end
def TS (L i:Int) (H:Nat) (x:Nat→Option (z00 × z05 × Bool)) (ts:List Tok):Option (Rs z16)→Prop
 | none=>∀ n,Sn n H (x n) (PS L ts 0 i,zSA,false)
 | some o=>TP L 0 i Prod.fst (fun v a=>(a,cS v,true)) H x o
structure PT (L:Int) (f:Nat):Prop where
 stmts:∀ (i:Nat) ts acc,i≤24→ts.length≤2000→acc.length+ts.length≤2000→TP L 0 i Prod.fst (fun v a=>(a,acc++cL v)) (2*f+6) (fun n=>SL n (PS L ts 0 i) acc) (zhe L f i ts)
 stmt:∀ (i:Nat) ts,i≤24→ts.length≤2000→TS L i (2*f+6) (fun n=>z0y n (PS L ts 0 i)) ts (zov L f i ts)
 arm:∀ (i:Nat) ts,i≤24→ts.length≤2000→TP L 0 i Prod.fst (fun v a=>(a,cArm v)) (2*f+6) (fun n=>z1j n (PS L ts 0 i)) (sArm L f i ts)
 arms:∀ (i:Nat) ts acc,i≤24→ts.length≤2000→acc.length+ts.length≤2000→TP L 0 i Prod.fst (fun v a=>(a,acc++cA v)) (2*f+6) (fun n=>AL n (PS L ts 0 i) acc) (zmj L f i ts)
 block:∀ (i:Nat) ts,i≤24→ts.length≤2000→TP L 0 i Prod.fst (fun v a=>(a,cL v)) (2*f+6) (fun n=>z0t n (PS L ts 0 i)) (zhf L f i ts)
theorem TP.map {ρ β γ:Type} {L d i:Int} {π:ρ→z00} {mk:β→z00→ρ} {mk':γ→z00→ρ} {H:Nat} {x:Nat→Option ρ} {o:Rs β} {g:β→γ}
  (h:TP L d i π mk H x o) (e:∀ v a,mk v a=mk' (g v) a):TP L d i π mk' H x (o.bind fun v r=>.ok (g v) r):=by
 intro hne
 cases o with
 | ok v ts =>
  obtain ⟨r,hr,hs⟩:=h (by simp)
  exact ⟨r,Eq.trans hr (e v _),hs⟩
 | er c p=>exact h (by simp)
 | out=>exact absurd rfl hne
theorem z03w (x:z6k) (l:List z6k):cA (x::l)=cArm x::cA l:=by cases x;rfl
abbrev mkL:List z16→z00→z00 × List z05:=fun v a=>(a,cL v)
abbrev mkT:z16→z00→z00 × z05 × Bool:=fun v a=>(a,cS v,true)
theorem zoa {L i:Int} {H:Nat} {x:Nat→Option (z00 × z05)} {o:Rs z16} (h:TP L 0 i Prod.fst mkS H x o):TP L 0 i Prod.fst mkT H (fun n=>x n>>=fun v=>some (v.1,v.2,true)) o:=by
 intro hne
 obtain ⟨r,g,s⟩:=h hne
 refine ⟨(r.1,r.2,true),?_,fun n=>Sn.bind (f:=fun v=>some (v.1,v.2,true)) (s n) (.inl rfl)⟩
 cases o with
 | ok v ts=>have g:r=mkS v (PS L ts 0 i):=g;subst g;rfl
 | er c p=>exact g
 | out=>exact absurd rfl hne
theorem pt (L:Int):∀ f,PT L f:=by
 intro f
 induction f with
 | zero=>exact ⟨fun i ts acc _ _ _=>by simp only [zhe];exact zif,fun i ts _ _=>by simp only [zov];exact zif,fun i ts _ _=>by simp only [sArm];exact zif,fun i ts acc _ _ _=>by simp only [zmj];exact zif,fun i ts _ _=>by simp only [zhf];exact zif⟩
 | succ f ih =>
  have sf:=sufS L f
  refine ⟨fun i ts acc hi hl ha=>?_,fun i ts hi hl=>?_,fun i ts hi hl=>?_,fun i ts acc hi hl ha=>?_,fun i ts hi hl=>?_⟩
  ·-- statements
   simp only [zhe]
   have h1:=ih.stmt i ts hi hl
   refine TP.eq (y:=fun n=>z0y n (PS L ts 0 i)>>=fun v1=>if (!v1.2.2) then some (v1.1,acc) else app 288 acc [v1.2.1]>>=fun v2=>SL n v1.1 v2) ?_ (fun n=>z08y n _ _)
   cases hs:zov L f i ts with
   | none =>
    rw [hs] at h1
    have h1:∀ n,Sn n (2*f+6) (z0y n (PS L ts 0 i)) (PS L ts 0 i,zSA,false):=h1
    refine fun _=>⟨(PS L ts 0 i,acc),by simp [GP,cL],fun n=>((h1 n).mono (show 2*f+6≤2*(f+1)+6 by omega)).bind (f:=fun v1=>if (!v1.2.2) then some (v1.1,acc) else app 288 acc [v1.2.1]>>=fun v2=>SL n v1.1 v2) (.inl rfl)⟩
   | some o =>
    rw [hs] at h1
    have h1:TP L 0 i Prod.fst mkT (2*f+6) (fun n=>z0y n (PS L ts 0 i)) o:=h1
    refine TP.mono (H:=2*f+6) ?_ (by omega)
    refine TP.bind (π':=Prod.fst) (mk':=fun v a=>(a,acc++cL v)) h1 (fun s r ho=>?_) (fun r c p hc he=>?_)
    ·subst ho
     have q:=sf.stmt _ _ _ _ hs
     have ql:=z58 q.1 hl
     refine TP.eq (y:=fun n=>SL n (PS L r 0 i) (acc++[cS s])) ?_ (fun n=>?_)
     ·refine TP.map (g:=fun l=>s::l) (ih.stmts i r (acc++[cS s]) hi ql (by simp;omega)) (fun v a=>?_)
      simp [cL]
     ·show (if (!true) then _ else (app 288 acc [cS s]).bind _)=_
      rw [z82 (by simp;omega)];rfl
    ·have hq:r.1.f_e≠0:=z5n hc he
     cases hb:r.2.2 with
     | false=>exact ⟨(r.1,acc),he,fun n=>.inl rfl⟩
     | true =>
      refine ⟨(r.1,acc++[r.2.1]),he,fun n=>?_⟩
      show Sn n _ (app 288 acc [r.2.1]>>=fun v2=>SL n r.1 v2) _
      rw [z82 (by simp;omega)]
      exact (SL_e hq n _).mono (by omega)
  ·-- a statement
   simp only [zov]
   cases h1:z6j (ByteArray.mk #[105,102]) ts with
   | true =>
    have l0:ts.tail.length≤2000:=by have:=z6s h1;omega
    simp only [if_true]
    refine TP.up (H:=2*f+7) (x:=fun n=>z17 n (PS L ts.tail 0 i)>>=fun v=>some (v.1,v.2,true)) rfl (fun n=>by simp only [z0y,zb7 hl,h1,Option.bind_eq_bind,Option.bind_some,if_true]) ?_
    refine zoa ?_
    refine TP.up (H:=2*f+6) (x:=fun n=>z63 (PS L ts.tail 0 i)>>=fun v1=>z0t n v1.1>>=fun v2=>z0r v2.1 (ByteArray.mk #[101,108,115,101])>>=fun v3=>if v3.2 then (z0t n v3.1>>=fun v4=>some (v4.1,(z05.mk 2 nB nB zA v1.2 v2.2 v4.2 []))) else (some (v3.1,(z05.mk 2 nB nB zA v1.2 v2.2 [] [])))) rfl (fun n=>rfl) ?_
    refine TP.bind (π':=Prod.fst) (mk':=mkS) (z008 l0) (fun c r1 h2=>?_) (fun r c p hc he=>⟨(bE r.1,.mk 2 nB nB zA r.2 [] [] []),he,fun n=>((zqb (z5n hc he) n).mono (by omega)).bind (f:=fun v2=>z0r v2.1 (ByteArray.mk #[101,108,115,101])>>=fun v3=>if v3.2 then (z0t n v3.1>>=fun v4=>some (v4.1,(z05.mk 2 nB nB zA r.2 v2.2 v4.2 []))) else (some (v3.1,(z05.mk 2 nB nB zA r.2 v2.2 [] [])))) (.inl (by rw [zid (a:=bE r.1) (z5n hc he)];rfl))⟩)
    have l1:=z58 (zft h2).1 l0
    refine TP.bind (π':=Prod.fst) (mk':=mkS) (ih.block i r1 hi l1) (fun b r2 h3=>?_) (fun r cc p hc he=>⟨(r.1,.mk 2 nB nB zA (cC c) r.2 [] []),he,fun n=>.inl (by rw [zid (a:=r.1) (z5n hc he)];rfl)⟩)
    have l2:=z58 (sf.block _ _ _ _ h3) l1
    cases h4:z6j (ByteArray.mk #[101,108,115,101]) r2 with
    | true =>
     have l3:r2.tail.length≤2000:=by have:=z6s h4;omega
     simp only [if_true]
     refine TP.eq (y:=fun n=>z0t n (PS L r2.tail 0 i)>>=fun v4=>some (v4.1,(z05.mk 2 nB nB zA (cC c) (cL b) v4.2 []))) ?_ (fun n=>by simp only [zb7 l2,h4,Option.bind_eq_bind,Option.bind_some,if_true])
     refine TP.bind (π':=Prod.fst) (mk':=mkS) (ih.block i r2.tail hi l3) (fun l r3 h5=>TP.pure (fun n=>?_)) (fun r cc p hc he=>⟨(r.1,.mk 2 nB nB zA (cC c) (cL b) r.2 []),he,fun n=>.inl rfl⟩)
     simp only [mkS,cS,cZ,cA]
    | false =>
     simp only [Bool.false_eq_true,if_false]
     refine TP.pure (fun n=>?_)
     simp only [zb7 l2,h4,Option.bind_eq_bind,Option.bind_some,Bool.false_eq_true,if_false,mkS,cS,cZ,cA,cL]
   | false =>
   simp only [Bool.false_eq_true,if_false]
   cases h2:z6j (ByteArray.mk #[119,104,105,108,101]) ts with
   | true =>
    have l0:ts.tail.length≤2000:=by have:=z6s h2;omega
    simp only [if_true]
    refine TP.up (H:=2*f+7) (x:=fun n=>z2d n (PS L ts.tail 0 i)>>=fun v=>some (v.1,v.2,true)) rfl (fun n=>by simp only [z0y,zb7 hl,h1,h2,Option.bind_eq_bind,Option.bind_some,if_true,Bool.false_eq_true,if_false]) ?_
    refine zoa ?_
    refine TP.up (H:=2*f+6) (x:=fun n=>z63 (PS L ts.tail 0 i)>>=fun v1=>z0t n v1.1>>=fun v2=>some (v2.1,(z05.mk 3 nB nB zA v1.2 v2.2 [] []))) rfl (fun n=>rfl) ?_
    refine TP.bind (π':=Prod.fst) (mk':=mkS) (z008 l0) (fun c r1 h2=>?_) (fun r c p hc he=>⟨(bE r.1,.mk 3 nB nB zA r.2 [] [] []),he,fun n=>((zqb (z5n hc he) n).mono (by omega)).bind (f:=fun v2=>some (v2.1,(z05.mk 3 nB nB zA r.2 v2.2 [] []))) (.inl rfl)⟩)
    have l1:=z58 (zft h2).1 l0
    refine TP.bind (π':=Prod.fst) (mk':=mkS) (ih.block i r1 hi l1) (fun b r2 h3=>TP.pure (fun n=>?_)) (fun r cc p hc he=>⟨(r.1,.mk 3 nB nB zA (cC c) r.2 [] []),he,fun n=>.inl rfl⟩)
    simp only [mkS,cS,cZ,cA,cL]
   | false =>
   simp only [Bool.false_eq_true,if_false]
   cases h3:z6j (ByteArray.mk #[115,101,110,100]) ts with
   | true =>
    have l0:ts.tail.length≤2000:=by have:=z6s h3;omega
    simp only [if_true]
    refine TP.mono (H:=1) ?_ (by omega)
    refine TP.up (H:=0) (x:=fun n=>z88 (PS L ts.tail 0 i)>>=fun v=>some (v.1,v.2,true)) rfl (fun n=>by simp only [z0y,zb7 hl,h1,h2,h3,Option.bind_eq_bind,Option.bind_some,if_true,Bool.false_eq_true,if_false]) ?_
    exact zoa (z08x l0)
   | false =>
   simp only [Bool.false_eq_true,if_false]
   cases h4:z6j (ByteArray.mk #[114,101,99,118]) ts with
   | true =>
    have l0:ts.tail.length≤2000:=by have:=z6s h4;omega
    simp only [if_true]
    refine TP.up (H:=2*f+7) (x:=fun n=>z26 n (PS L ts.tail 0 i)>>=fun v=>some (v.1,v.2,true)) rfl (fun n=>by simp only [z0y,zb7 hl,h1,h2,h3,h4,Option.bind_eq_bind,Option.bind_some,if_true,Bool.false_eq_true,if_false]) ?_
    refine zoa ?_
    refine TP.up (H:=2*f+6) (x:=fun n=>z0o (PS L ts.tail 0 i)>>=fun v1=>z08 v1.1 (ByteArray.mk #[123])>>=fun v2=>z1j n v2>>=fun v3=>app 56 [] [v3.2]>>=fun v4=>AL n v3.1 v4>>=fun w=>z08 w.1 (ByteArray.mk #[125])>>=fun v8=>some (v8,(z05.mk 5 v1.2 nB zA zCA [] [] w.2))) rfl (fun n=>by
     simp only [z26,Option.bind_eq_bind]
     congr 1;funext v1
     congr 1;funext v2
     congr 1;funext v3
     congr 1;funext v4
     unfold AL
     rw [Option.bind_eq_bind,Option.bind_assoc]
     show (iter (RB n) (tpA v3.1 v4)).bind _=(iter (RB n) (tpA v3.1 v4)).bind _
     congr 1;funext o
     cases o <;> rfl) ?_
    have er:∀ (a:z00) (m:ByteArray),a.f_e≠0→∀ n,Sn n (2*f+6) (z1j n a>>=fun v3=>app 56 [] [v3.2]>>=fun v4=>AL n v3.1 v4>>=fun w=>z08 w.1 (ByteArray.mk #[125])>>=fun v8=>some (v8,(z05.mk 5 m nB zA zCA [] [] w.2))) (bE a,.mk 5 m nB zA zCA [] [] [.mk nB nB []]):=fun a m h n=>by
     refine ((z0aj h n).mono (show 4≤2*f+6 by omega)).bind (f:=fun v3=>app 56 [] [v3.2]>>=fun v4=>AL n v3.1 v4>>=fun w=>z08 w.1 (ByteArray.mk #[125])>>=fun v8=>some (v8,(z05.mk 5 m nB zA zCA [] [] w.2))) (.inl ?_)
     rw [z82 (by simp)]
     show (AL n (bE a) _).bind _=_
     rw [AL_e (a:=bE a) h]
     show (z08 (bE a) _).bind _=_
     rw [zf8 (a:=bE a) h];rfl
    refine TP.bind (π':=Prod.fst) (mk':=mkS) (zdx l0) (fun m r1 q1=>?_) (fun r c p hc he=>⟨(bE r.1,.mk 5 r.2 nB zA zCA [] [] [.mk nB nB []]),he,fun n=>by rw [zf8 (z5n hc he)];exact er r.1 r.2 (z5n hc he) n⟩)
    have l1:=z58 (z4l q1).1 l0
    refine TP.bind (π':=Prod.fst) (mk':=mkS) (z96 l1 _) (fun _ r2 q2=>?_) (fun r c p hc he=>⟨(bE r,.mk 5 m nB zA zCA [] [] [.mk nB nB []]),he,fun n=>er r m (z5n hc he) n⟩)
    have l2:=z58 (z34 q2).1 l1
    refine TP.bind (π':=Prod.fst) (mk':=mkS) (ih.arm i r2 hi l2) (fun x r3 q3=>?_) (fun r c p hc he=>⟨(r.1,.mk 5 m nB zA zCA [] [] [r.2]),he,fun n=>.inl (by
     rw [z82 (by simp)]
     show (AL n r.1 _).bind _=_
     rw [AL_e (z5n hc he)]
     show (z08 r.1 _).bind _=_
     rw [zf8 (z5n hc he)];rfl)⟩)
    have z3:=sf.arm _ _ _ _ q3
    have l3:=z58 z3.1 l2
    refine TP.eq (y:=fun n=>AL n (PS L r3 0 i) [cArm x]>>=fun w=>z08 w.1 (ByteArray.mk #[125])>>=fun v8=>some (v8,(z05.mk 5 m nB zA zCA [] [] w.2))) ?_ (fun n=>by rw [z82 (by simp)];rfl)
    refine TP.bind (π':=Prod.fst) (mk':=mkS) (ih.arms i r3 [cArm x] hi l3 (by simp;omega)) (fun l r4 q4=>?_) (fun r c p hc he=>⟨(r.1,.mk 5 m nB zA zCA [] [] r.2),he,fun n=>.inl (by rw [zf8 (z5n hc he)];rfl)⟩)
    have l4:=z58 (sf.arms _ _ _ _ q4) l3
    refine TP.bind (π':=Prod.fst) (mk':=mkS) (z96 l4 _) (fun _ r5 q5=>TP.pure (fun n=>?_)) (fun r c p hc he=>⟨(r,.mk 5 m nB zA zCA [] [] ([cArm x]++cA l)),he,fun n=>.inl rfl⟩)
    simp only [mkS,cS,cZ,cZC,cL,z03w,List.singleton_append]
   | false =>
   simp only [Bool.false_eq_true,if_false]
   cases h5:z6j (ByteArray.mk #[97,115,115,101,114,116]) ts with
   | true =>
    have l0:ts.tail.length≤2000:=by have:=z6s h5;omega
    simp only [if_true]
    refine TP.mono (H:=1) ?_ (by omega)
    refine TP.up (H:=0) (x:=fun n=>z7e (PS L ts.tail 0 i)>>=fun v=>some (v.1,v.2,true)) rfl (fun n=>by simp only [z0y,zb7 hl,h1,h2,h3,h4,h5,Option.bind_eq_bind,Option.bind_some,if_true,Bool.false_eq_true,if_false]) ?_
    exact zoa (z02f l0)
   | false =>
   simp only [Bool.false_eq_true,if_false]
   cases h6:z6j (ByteArray.mk #[105,110,112,117,116]) ts with
   | true =>
    have l0:ts.tail.length≤2000:=by have:=z6s h6;omega
    simp only [if_true]
    refine TP.mono (H:=1) ?_ (by omega)
    refine TP.up (H:=0) (x:=fun n=>z7r (PS L ts.tail 0 i)>>=fun v=>some (v.1,v.2,true)) rfl (fun n=>by simp only [z0y,zb7 hl,h1,h2,h3,h4,h5,h6,Option.bind_eq_bind,Option.bind_some,if_true,Bool.false_eq_true,if_false]) ?_
    exact zoa (z063 l0)
   | false =>
   simp only [Bool.false_eq_true,if_false]
   cases h7:sOf 1 ts with
   | true =>
    simp only [if_true]
    refine TP.mono (H:=1) ?_ (by omega)
    refine TP.up (H:=0) (x:=fun n=>z7f (PS L ts 0 i)>>=fun v=>some (v.1,v.2,true)) rfl (fun n=>by simp only [z0y,zb7 hl,of_P,h1,h2,h3,h4,h5,h6,h7,Option.bind_eq_bind,Option.bind_some,if_true,Bool.false_eq_true,if_false]) ?_
    exact zoa (z02g hl)
   | false =>
    simp only [Bool.false_eq_true,if_false]
    intro n
    cases n with
    | zero=>exact .inr ⟨rfl,by omega⟩
    | succ n =>
     refine .inl ?_
     simp only [z0y,zb7 hl,of_P,h1,h2,h3,h4,h5,h6,h7,Option.bind_eq_bind,Option.bind_some,Bool.false_eq_true,if_false]
     rfl
  ·-- an arm
   simp only [sArm]
   refine TP.mono (H:=2*f+7) ?_ (by omega)
   refine TP.up (H:=2*f+6) (x:=fun n=>z0o (PS L ts 0 i)>>=fun v1=>z08 v1.1 (ByteArray.mk #[40])>>=fun v2=>z0o v2>>=fun v3=>z08 v3.1 (ByteArray.mk #[41])>>=fun v4=>z0t n v4>>=fun v5=>some (v5.1,(z1r.mk v1.2 v3.2 v5.2))) rfl (fun n=>rfl) ?_
   have er:∀ (a:z00) (s t:ByteArray),a.f_e≠0→∀ n,Sn n (2*f+6) (z0t n a>>=fun v5=>some (v5.1,(z1r.mk s t v5.2))) (bE a,.mk s t []):=fun a s t h n=>((zqb h n).mono (by omega)).bind (f:=fun v5=>some (v5.1,(z1r.mk s t v5.2))) (.inl rfl)
   refine TP.bind (π':=Prod.fst) (mk':=fun v a=>(a,cArm v)) (zdx hl) (fun t r1 q1=>?_) (fun r c p hc he=>⟨(bE r.1,.mk r.2 nB []),he,fun n=>by
    have h:=z5n hc he
    simp only [zf8 h,zpe h,Option.bind_eq_bind,Option.bind_some]
    exact er r.1 r.2 nB h n⟩)
   have l1:=z58 (z4l q1).1 hl
   refine TP.bind (π':=Prod.fst) (mk':=fun v a=>(a,cArm v)) (z96 l1 _) (fun _ r2 q2=>?_) (fun r c p hc he=>⟨(bE r,.mk t nB []),he,fun n=>by
    have h:r.f_e≠0:=z5n hc he
    simp only [zf8 h,zpe h,Option.bind_eq_bind,Option.bind_some]
    exact er r t nB h n⟩)
   have l2:=z58 (z34 q2).1 l1
   refine TP.bind (π':=Prod.fst) (mk':=fun v a=>(a,cArm v)) (zdx l2) (fun w r3 q3=>?_) (fun r c p hc he=>⟨(bE r.1,.mk t r.2 []),he,fun n=>by
    have h:=z5n hc he
    simp only [zf8 h,Option.bind_eq_bind,Option.bind_some]
    exact er r.1 t r.2 h n⟩)
   have l3:=z58 (z4l q3).1 l2
   refine TP.bind (π':=Prod.fst) (mk':=fun v a=>(a,cArm v)) (z96 l3 _) (fun _ r4 q4=>?_) (fun r c p hc he=>⟨(bE r,.mk t w []),he,fun n=>er r t w (z5n hc he) n⟩)
   have l4:=z58 (z34 q4).1 l3
   refine TP.bind (π':=Prod.fst) (mk':=fun v a=>(a,cArm v)) (ih.block i r4 hi l4) (fun b r5 q5=>TP.pure (fun n=>rfl)) (fun r c p hc he=>⟨(r.1,.mk t w r.2),he,fun n=>.inl rfl⟩)
  ·-- arms
   simp only [zmj]
   refine TP.eq (y:=fun n=>if z6j (ByteArray.mk #[125]) ts then some (PS L ts 0 i,acc) else z1j n (PS L ts 0 i)>>=fun v=>app 56 acc [v.2]>>=fun v2=>AL n v.1 v2) ?_ (fun n=>z0ai n acc)
   cases h1:z6j (ByteArray.mk #[125]) ts with
   | true =>
    simp only [if_true]
    exact TP.pure (fun n=>by simp [cA])
   | false =>
    simp only [Bool.false_eq_true,if_false]
    refine TP.mono (H:=2*f+6) ?_ (by omega)
    refine TP.bind (π':=Prod.fst) (mk':=fun v a=>(a,acc++cA v)) (ih.arm i ts hi hl) (fun x r ho=>?_) (fun r c p hc he=>⟨(r.1,acc++[r.2]),he,fun n=>.inl (by
     rw [z82 (by simp;omega)]
     exact AL_e (z5n hc he) n _)⟩)
    have q:=sf.arm _ _ _ _ ho
    have ql:=z58 q.1 hl
    refine TP.eq (y:=fun n=>AL n (PS L r 0 i) (acc++[cArm x])) ?_ (fun n=>?_)
    ·refine TP.map (g:=fun l=>x::l) (ih.arms i r (acc++[cArm x]) hi ql (by simp;omega)) (fun v a=>?_)
     simp [z03w]
    ·show (app 56 acc [cArm x]).bind _=_
     rw [z82 (by simp;omega)];rfl
  ·-- a block
   simp only [zhf]
   cases h1:(z6j (ByteArray.mk #[123]) ts&&decide (i=24)) with
   | true =>
    simp only [Bool.and_eq_true,decide_eq_true_eq] at h1
    simp only [if_true]
    obtain ⟨h1,h2⟩:=h1
    subst h2
    refine TP.mono (H:=1) ?_ (by omega)
    refine TP.up (H:=0) (x:=fun n=>some (⟨ts.map tokT,L,6,sAt L ts,0,24⟩,[])) rfl (fun n=>by
     simp only [z0t,zje,h1,Option.bind_eq_bind,Option.bind_some,if_true,zo8]
     rfl) ?_
    exact TP.err (fun n=>rfl) (by decide) ⟨rfl,rfl⟩
   | false =>
    simp only [Bool.false_eq_true,if_false]
    have hj:(if z6j (ByteArray.mk #[123]) ts then some ((PS L ts 0 i).f_in==24) else some false)=some false:=by
     cases hs:z6j (ByteArray.mk #[123]) ts with
     | false=>rfl
     | true =>
      rw [hs] at h1
      have h1:decide (i=24)=false:=h1
      have:((i:Int)==24)=false:=by simp at h1 ⊢;omega
      show some ((i:Int)==24)=_
      rw [this]
    refine TP.mono (H:=2*f+8) ?_ (by omega)
    refine TP.up (H:=2*f+7) (x:=fun n=>z08 (PS L ts 0 i) (ByteArray.mk #[123])>>=fun v3=>z1c n (z00.mk v3.f_l v3.f_end v3.f_e v3.f_at v3.f_deep (IntKind.i64.wrap (v3.f_in+1)))>>=fun v4=>z08 (z00.mk v4.1.f_l v4.1.f_end v4.1.f_e v4.1.f_at v4.1.f_deep (IntKind.i64.wrap (v4.1.f_in - 1))) (ByteArray.mk #[125])>>=fun v5=>some (v5,v4.2)) rfl (fun n=>by
     simp only [z0t,zje,Option.bind_eq_bind,Option.bind_some,hj,Bool.false_eq_true,if_false]) ?_
    refine TP.bind (π':=Prod.fst) (mk':=mkL) (z96 hl _) (fun _ r1 q1=>?_) (fun r c p hc he=>⟨(bE r,[]),he,fun n=>by
     have h:r.f_e≠0:=z5n hc he
     refine ((zts (a:=⟨r.f_l,r.f_end,r.f_e,r.f_at,r.f_deep,IntKind.i64.wrap (r.f_in+1)⟩) h n).mono (by omega)).bind (f:=fun v4:z00 × List z05=>z08 (z00.mk v4.1.f_l v4.1.f_end v4.1.f_e v4.1.f_at v4.1.f_deep (IntKind.i64.wrap (v4.1.f_in - 1))) (ByteArray.mk #[125])>>=fun v5=>some (v5,v4.2)) (.inl ?_)
     show (z08 (bE r) (ByteArray.mk #[125])).bind _=_
     rw [zf8 (a:=bE r) h];rfl⟩)
    have l1:=z58 (z34 q1).1 hl
    have hi':i+1≤24:=by
     have hs:z6j (ByteArray.mk #[123]) ts=true:=by
      unfold zap at q1
      split at q1
      ·assumption
      ·cases q1
     rw [hs] at h1
     have h1:decide (i=24)=false:=h1
     simp at h1;omega
    have w1:IntKind.i64.wrap ((PS L r1 0 i).f_in+1)=((i+1:Nat):Int):=by
     show IntKind.i64.wrap ((i:Int)+1)=_
     rw [w64 (by omega) (by omega)];omega
    have hsl:TP L 0 ((i+1:Nat):Int) Prod.fst mkL (2*f+7) (fun n=>z1c n (PS L r1 0 ((i+1:Nat):Int))) (zhe L f (i+1) r1):=TP.up (x:=fun n=>SL n (PS L r1 0 ((i+1:Nat):Int)) []) rfl (fun n=>rfl) (by
     have:=ih.stmts (i+1) r1 [] hi' l1 (by simpa using l1)
     simpa using this)
    refine TP.eq (y:=fun n=>z1c n (PS L r1 0 ((i+1:Nat):Int))>>=fun v4=>z08 (z00.mk v4.1.f_l v4.1.f_end v4.1.f_e v4.1.f_at v4.1.f_deep (IntKind.i64.wrap (v4.1.f_in - 1))) (ByteArray.mk #[125])>>=fun v5=>some (v5,v4.2)) ?_ (fun n=>by
     show z1c n ⟨r1.map tokT,L,0,0,0,IntKind.i64.wrap ((PS L r1 0 i).f_in+1)⟩>>=_=_
     rw [w1];rfl)
    refine TP.bind (π':=Prod.fst) (mk':=mkL) hsl (fun b r2 q2=>?_) (fun r c p hc he=>⟨(⟨r.1.f_l,r.1.f_end,r.1.f_e,r.1.f_at,r.1.f_deep,IntKind.i64.wrap (r.1.f_in - 1)⟩,r.2),he,fun n=>.inl (by
     rw [zf8 (a:=⟨r.1.f_l,r.1.f_end,r.1.f_e,r.1.f_at,r.1.f_deep,IntKind.i64.wrap (r.1.f_in - 1)⟩) (z5n hc he)];rfl)⟩)
    have l2:=z58 (sf.stmts _ _ _ _ q2) l1
    have w2:IntKind.i64.wrap ((PS L r2 0 ((i+1:Nat):Int)).f_in - 1)=(i:Int):=by
     show IntKind.i64.wrap (((i+1:Nat):Int) - 1)=_
     rw [w64 (by omega) (by omega)];omega
    refine TP.eq (y:=fun n=>z08 (PS L r2 0 i) (ByteArray.mk #[125])>>=fun v5=>some (v5,cL b)) ?_ (fun n=>by
     show z08 ⟨r2.map tokT,L,0,0,0,IntKind.i64.wrap ((PS L r2 0 ((i+1:Nat):Int)).f_in - 1)⟩ _>>=_=_
     rw [w2];rfl)
    exact TP.bind (π':=Prod.fst) (mk':=mkL) (z96 l2 _) (fun _ r3 q3=>TP.pure (fun n=>rfl)) (fun r c p hc he=>⟨(r,cL b),he,fun n=>.inl rfl⟩)
def zhb {α:Type} (more:List Tok→Option (Rs α)):Nat→List Tok→Rs (List α)
 | 0,_=>.out
 | f+1,ts=>match more ts with
  | none=>.ok [] ts
  | some o=>o.bind fun v r=>(zhb more f r).bind fun l r'=>.ok (v::l) r'
structure More {α:Type} (more:List Tok→Option (Rs α)):Prop where
 suf:∀ ts v r,more ts=some (.ok v r)→r <:+ ts∧r.length<ts.length
 ne:∀ ts,more ts≠some .out
theorem zfu {α:Type} {more:List Tok→Option (Rs α)} (m:More more):∀ f ts v r,zhb more f ts=.ok v r→r <:+ ts:=by
 intro f
 induction f with
 | zero=>intro ts v r h;cases h
 | succ f ih =>
  intro ts v r h
  simp only [zhb] at h
  split at h
  ·injection h with _ h;subst h;exact List.suffix_refl _
  ·rename_i o ho
   obtain ⟨s,r1,h1,h0⟩:=bind_ok h
   obtain ⟨l,r2,h2,h3⟩:=bind_ok h0
   injection h3 with _ h3;subst h3;subst h1
   exact (ih _ _ _ h2).trans (m.suf _ _ _ ho).1
theorem zmk {α:Type} {more:List Tok→Option (Rs α)} (m:More more):∀ f ts,ts.length+1≤f→zhb more f ts≠.out:=by
 intro f
 induction f with
 | zero=>intro ts h;omega
 | succ f ih =>
  intro ts hf h
  simp only [zhb] at h
  split at h
  ·cases h
  ·rename_i o ho
   rcases z1d h with h0|⟨s,r1,h1,h0⟩
   ·subst h0;exact m.ne _ ho
   ·subst h1
    have:=(m.suf _ _ _ ho).2
    rcases z1d h0 with h2|⟨l,r2,h2,h3⟩
    ·exact ih _ (by omega) h2
    ·cases h3
abbrev T7 (β:Type):=List z0m × Int × Int × Int × Int × Int × List β
def tp7 {β:Type} (a:z00) (l:List β):T7 β:=(a.f_l,a.f_end,a.f_e,a.f_at,a.f_deep,a.f_in,l)
noncomputable def LF {β O:Type} (body:T7 β→Option (Sum (T7 β) (Sum O (T7 β)))) (a:z00) (l:List β):Option (z00 × List β) :=
 iter body (tp7 a l)>>=Sum.elim (fun _=>none) (fun j1=>some (⟨j1.1,j1.2.1,j1.2.2.1,j1.2.2.2.1,j1.2.2.2.2.1,j1.2.2.2.2.2.1⟩,j1.2.2.2.2.2.2))
section
variable {β O:Type} {body:T7 β→Option (Sum (T7 β) (Sum O (T7 β)))} {a:z00} {l:List β}
theorem zmv (h:body (tp7 a l)=some (.inr (.inr (tp7 a l)))):LF body a l=some (a,l):=by unfold LF;rw [z4r h];rfl
theorem z064 {x:Option (z00 × List β)} (h:body (tp7 a l)=x>>=fun v=>some (.inl (tp7 v.1 v.2))):LF body a l=x>>=fun v=>LF body v.1 v.2:=by
 unfold LF
 rw [zcd,h]
 simp only [Option.bind_eq_bind,Option.bind_assoc]
 congr 1
theorem zvi {ρ:Type} (k:z00 × List β→Option ρ):iter body (tp7 a l)>>=Sum.elim (fun _=>none) (fun j1=>k (⟨j1.1,j1.2.1,j1.2.2.1,j1.2.2.2.1,j1.2.2.2.2.1,j1.2.2.2.2.2.1⟩,j1.2.2.2.2.2.2))=LF body a l>>=k:=by
 unfold LF
 simp only [Option.bind_eq_bind,Option.bind_assoc]
 congr 1;funext o
 cases o <;> rfl
end
theorem zpf {β γ O:Type} {L d i:Int} {body:T7 β→Option (Sum (T7 β) (Sum O (T7 β)))} {more:List Tok→Option (Rs γ)} {cv:γ→β} (m:More more)
  (h0:∀ ts l,ts.length≤2000→more ts=none→body (tp7 (PS L ts d i) l)=some (.inr (.inr (tp7 (PS L ts d i) l))))
  (h1:∀ ts o,ts.length≤2000→more ts=some o→∃ x,TP L d i Prod.fst (fun v a=>(a,cv v)) 0 (fun _=>x) o∧∀ l:List β,l.length≤2000→body (tp7 (PS L ts d i) l)=x>>=fun v=>some (.inl (tp7 v.1 (l++[v.2]))))
  (h2:∀ a l,a.f_e≠0→body (tp7 a l)=some (.inr (.inr (tp7 a l)))) :
  ∀ f ts (l:List β),ts.length≤2000→l.length+ts.length≤2000→TP L d i Prod.fst (fun (v:List γ) a=>(a,l++v.map cv)) 0 (fun _=>LF body (PS L ts d i) l) (zhb more f ts):=by
 intro f
 induction f with
 | zero=>intro ts l _ _;exact zif
 | succ f ih =>
  intro ts l ht hl
  simp only [zhb]
  cases hm:more ts with
  | none=>exact TP.pure (fun n=>by rw [zmv (h0 ts l ht hm)];simp)
  | some o =>
   obtain ⟨x,hx,hb⟩:=h1 ts o ht hm
   refine TP.eq (y:=fun _=>x>>=fun v=>LF body v.1 (l++[v.2])) ?_ (fun n=>by
    rw [z064 (x:=x>>=fun v=>some (v.1,l++[v.2])) (by rw [hb l (by omega)];simp only [Option.bind_eq_bind,Option.bind_assoc,Option.bind_some])]
    simp only [Option.bind_eq_bind,Option.bind_assoc,Option.bind_some])
   refine TP.bind (π':=Prod.fst) (mk':=fun (v:List γ) a=>(a,l++v.map cv)) hx (fun v r ho=>?_) (fun r c p hc he=>⟨(r.1,l++[r.2]),he,fun n=>.inl (zmv (h2 r.1 _ (z5n hc he)))⟩)
   subst ho
   have q:=m.suf _ _ _ hm
   refine TP.map (g:=fun w=>v::w) (ih r (l++[cv v]) (z58 q.1 ht) (by simp;omega)) (fun w a=>by simp)
section
variable (L:Int)
def z009:List ByteArray:=[(ByteArray.mk #[98,108,111,99,107]),(ByteArray.mk #[100,114,111,112]),(ByteArray.mk #[108,111,115,115,121])]
def mTag (ts:List Tok):Option (Rs ByteArray):=if z6j (ByteArray.mk #[44]) ts then some (zeg L ts.tail) else none
def ztt (ts:List Tok):Rs zdc:=(zeg L ts).bind fun n r1=>match za0 z009 r1 with
 | none=>.er 5 (sAt L r1)
 | some j=>(sNum L r1.tail).bind fun z r2=>(zap L (ByteArray.mk #[102,114,111,109]) r2).bind fun _ r3=>(zeg L r3).bind fun a r4=>(zap L (ByteArray.mk #[116,111]) r4).bind fun _ r5=>(zeg L r5).bind fun b r6 =>
  (zap L (ByteArray.mk #[123]) r6).bind fun _ r7=>(zeg L r7).bind fun t r8=>(zhb (mTag L) (r8.length+1) r8).bind fun l r9=>(zap L (ByteArray.mk #[125]) r9).bind fun _ r10=>(zap L (ByteArray.mk #[59]) r10).bind fun _ r11=>.ok ⟨n,(j:Int),z,a,b,t::l⟩ r11
def ztu (ts:List Tok):Rs zcf:=(sNum L ts).bind fun a r1=>(zeg L r1).bind fun t r2=>(sNum L r2).bind fun b r3=>(zap L (ByteArray.mk #[59]) r3).bind fun _ r4=>.ok ⟨a,t,b⟩ r4
def ztv (ts:List Tok):Option (Rs zcf):=if z6j (ByteArray.mk #[125]) ts then none else some (ztu L ts)
def ztw (ts:List Tok):Rs zdd:=(zeg L ts).bind fun n r1=>(zap L (ByteArray.mk #[123]) r1).bind fun _ r2=>(zhb (ztv L) (r2.length+1) r2).bind fun l r3=>(zap L (ByteArray.mk #[125]) r3).bind fun _ r4=>.ok ⟨n,l⟩ r4
def mVar (ts:List Tok):Option (Rs ByteArray):=if z6j (ByteArray.mk #[118,97,114]) ts then some ((zeg L ts.tail).bind fun n r1=>(zap L (ByteArray.mk #[59]) r1).bind fun _ r2=>.ok n r2) else none
def z00a (ts:List Tok):Rs (List z16):=zhe L (3*ts.length+2) 0 ts
def ztx (ts:List Tok):Rs zde:=(zeg L ts).bind fun n r1=>(zap L (ByteArray.mk #[123]) r1).bind fun _ r2=>(zhb (mVar L) (r2.length+1) r2).bind fun l r3=>(z00a L r3).bind fun b r4=>(zap L (ByteArray.mk #[125]) r4).bind fun _ r5=>.ok ⟨n,l,b⟩ r5
def zty (ts:List Tok):Option (Rs zdc):=if z6j (ByteArray.mk #[99,104,97,110]) ts then some (ztt L ts.tail) else none
def ztz (ts:List Tok):Option (Rs zdd):=if z6j (ByteArray.mk #[114,117,108,101]) ts then some (ztw L ts.tail) else none
def zu0 (ts:List Tok):Option (Rs zde):=if z6j (ByteArray.mk #[112,114,111,99]) ts then some (ztx L ts.tail) else none
def sSys (ts:List Tok):Rs z4m:=(zhb (zty L) (ts.length+1) ts).bind fun c r1=>(zhb (ztz L) (r1.length+1) r1).bind fun r r2=>(zhb (zu0 L) (r2.length+1) r2).bind fun p r3=>.ok ⟨c,r,p⟩ r3
def sAll (ts:List Tok):Rs z4m:=(sSys L ts).bind fun v r=>match r with|[]=>.ok v []|t::_=>.er 5 (t.at_:Int)
end
section
variable {L:Int}
theorem zvj:More (mTag L) where
 suf:=fun ts v r h=>by
  unfold mTag at h;split at h
  ·rename_i hs;injection h with h;exact zbp hs (z4l h).1
  ·cases h
 ne:=fun ts h=>by
  unfold mTag at h;split at h
  ·injection h with h;exact zaq h
  ·cases h
theorem z02h {ts r:List Tok} {v:zdc} (h:ztt L ts=.ok v r):r <:+ ts:=by
 unfold ztt at h
 obtain ⟨_,r1,h1,h⟩:=bind_ok h
 split at h
 ·cases h
 rename_i j hj
 obtain ⟨_,r2,h2,h⟩:=bind_ok h
 obtain ⟨_,r3,h3,h⟩:=bind_ok h
 obtain ⟨_,r4,h4,h⟩:=bind_ok h
 obtain ⟨_,r5,h5,h⟩:=bind_ok h
 obtain ⟨_,r6,h6,h⟩:=bind_ok h
 obtain ⟨_,r7,h7,h⟩:=bind_ok h
 obtain ⟨_,r8,h8,h⟩:=bind_ok h
 obtain ⟨_,r9,h9,h⟩:=bind_ok h
 obtain ⟨_,r10,h10,h⟩:=bind_ok h
 obtain ⟨_,r11,h11,h⟩:=bind_ok h
 injection h with _ h;subst h
 exact (z34 h11).1.trans ((z34 h10).1.trans ((zfu zvj _ _ _ _ h9).trans ((z4l h8).1.trans ((z34 h7).1.trans ((z4l h6).1.trans ((z34 h5).1.trans ((z4l h4).1.trans ((z34 h3).1.trans ((zie h2).1.trans ((List.tail_suffix r1).trans (z4l h1).1))))))))))
theorem z065 {ts:List Tok}:ztt L ts≠.out:=fun h=>by
 unfold ztt at h
 rcases z1d h with h|⟨_,_,_,h⟩
 ·exact zaq h
 split at h
 ·cases h
 rcases z1d h with h|⟨_,_,_,h⟩
 ·exact zvg h
 rcases z1d h with h|⟨_,_,_,h⟩
 ·exact z70 h
 rcases z1d h with h|⟨_,_,_,h⟩
 ·exact zaq h
 rcases z1d h with h|⟨_,_,_,h⟩
 ·exact z70 h
 rcases z1d h with h|⟨_,_,_,h⟩
 ·exact zaq h
 rcases z1d h with h|⟨_,_,_,h⟩
 ·exact z70 h
 rcases z1d h with h|⟨_,_,_,h⟩
 ·exact zaq h
 rcases z1d h with h|⟨_,_,_,h⟩
 ·exact zmk zvj _ _ (Nat.le_refl _) h
 rcases z1d h with h|⟨_,_,_,h⟩
 ·exact z70 h
 rcases z1d h with h|⟨_,_,_,h⟩
 ·exact z70 h
 ·cases h
theorem z02i {ts r:List Tok} {v:zcf} (h:ztu L ts=.ok v r):r <:+ ts∧r.length<ts.length:=by
 unfold ztu at h
 obtain ⟨_,r1,h1,h⟩:=bind_ok h
 obtain ⟨_,r2,h2,h⟩:=bind_ok h
 obtain ⟨_,r3,h3,h⟩:=bind_ok h
 obtain ⟨_,r4,h4,h⟩:=bind_ok h
 injection h with _ h;subst h
 exact ztr ((z34 h4).1.trans ((zie h3).1.trans (z4l h2).1)) (zie h1).1 (zie h1).2
theorem z066 {ts:List Tok}:ztu L ts≠.out:=fun h=>by
 unfold ztu at h
 rcases z1d h with h|⟨_,_,_,h⟩
 ·exact zvg h
 rcases z1d h with h|⟨_,_,_,h⟩
 ·exact zaq h
 rcases z1d h with h|⟨_,_,_,h⟩
 ·exact zvg h
 rcases z1d h with h|⟨_,_,_,h⟩
 ·exact z70 h
 ·cases h
theorem zqc:More (ztv L) where
 suf:=fun ts v r h=>by
  unfold ztv at h;split at h
  ·cases h
  ·injection h with h;exact z02i h
 ne:=fun ts h=>by
  unfold ztv at h;split at h
  ·cases h
  ·injection h with h;exact z066 h
theorem z02j {ts r:List Tok} {v:zdd} (h:ztw L ts=.ok v r):r <:+ ts:=by
 unfold ztw at h
 obtain ⟨_,r1,h1,h⟩:=bind_ok h
 obtain ⟨_,r2,h2,h⟩:=bind_ok h
 obtain ⟨_,r3,h3,h⟩:=bind_ok h
 obtain ⟨_,r4,h4,h⟩:=bind_ok h
 injection h with _ h;subst h
 exact (z34 h4).1.trans ((zfu zqc _ _ _ _ h3).trans ((z34 h2).1.trans (z4l h1).1))
theorem z067 {ts:List Tok}:ztw L ts≠.out:=fun h=>by
 unfold ztw at h
 rcases z1d h with h|⟨_,_,_,h⟩
 ·exact zaq h
 rcases z1d h with h|⟨_,_,_,h⟩
 ·exact z70 h
 rcases z1d h with h|⟨_,_,_,h⟩
 ·exact zmk zqc _ _ (Nat.le_refl _) h
 rcases z1d h with h|⟨_,_,_,h⟩
 ·exact z70 h
 ·cases h
theorem zvk:More (mVar L) where
 suf:=fun ts v r h=>by
  unfold mVar at h;split at h
  ·rename_i hs;injection h with h
   obtain ⟨_,r1,h1,h⟩:=bind_ok h
   obtain ⟨_,r2,h2,h⟩:=bind_ok h
   injection h with _ h;subst h
   exact zbp hs ((z34 h2).1.trans (z4l h1).1)
  ·cases h
 ne:=fun ts h=>by
  unfold mVar at h;split at h
  ·injection h with h
   rcases z1d h with h|⟨_,_,_,h⟩
   ·exact zaq h
   rcases z1d h with h|⟨_,_,_,h⟩
   ·exact z70 h
   ·cases h
  ·cases h
theorem zvl {ts r:List Tok} {v:List z16} (h:z00a L ts=.ok v r):r <:+ ts:=(sufS L _).stmts _ _ _ _ h
theorem z068 {ts:List Tok}:z00a L ts≠.out:=(fuS L _).stmts _ _ (Nat.le_refl _)
theorem z02k {ts r:List Tok} {v:zde} (h:ztx L ts=.ok v r):r <:+ ts:=by
 unfold ztx at h
 obtain ⟨_,r1,h1,h⟩:=bind_ok h
 obtain ⟨_,r2,h2,h⟩:=bind_ok h
 obtain ⟨_,r3,h3,h⟩:=bind_ok h
 obtain ⟨_,r4,h4,h⟩:=bind_ok h
 obtain ⟨_,r5,h5,h⟩:=bind_ok h
 injection h with _ h;subst h
 exact (z34 h5).1.trans ((zvl h4).trans ((zfu zvk _ _ _ _ h3).trans ((z34 h2).1.trans (z4l h1).1)))
theorem z069 {ts:List Tok}:ztx L ts≠.out:=fun h=>by
 unfold ztx at h
 rcases z1d h with h|⟨_,_,_,h⟩
 ·exact zaq h
 rcases z1d h with h|⟨_,_,_,h⟩
 ·exact z70 h
 rcases z1d h with h|⟨_,_,_,h⟩
 ·exact zmk zvk _ _ (Nat.le_refl _) h
 rcases z1d h with h|⟨_,_,_,h⟩
 ·exact z068 h
 rcases z1d h with h|⟨_,_,_,h⟩
 ·exact z70 h
 ·cases h
theorem zu1:More (zty L) where
 suf:=fun ts v r h=>by
  unfold zty at h;split at h
  ·rename_i hs;injection h with h;exact zbp hs (z02h h)
  ·cases h
 ne:=fun ts h=>by
  unfold zty at h;split at h
  ·injection h with h;exact z065 h
  ·cases h
theorem zu2:More (ztz L) where
 suf:=fun ts v r h=>by
  unfold ztz at h;split at h
  ·rename_i hs;injection h with h;exact zbp hs (z02j h)
  ·cases h
 ne:=fun ts h=>by
  unfold ztz at h;split at h
  ·injection h with h;exact z067 h
  ·cases h
theorem z00b:More (zu0 L) where
 suf:=fun ts v r h=>by
  unfold zu0 at h;split at h
  ·rename_i hs;injection h with h;exact zbp hs (z02k h)
  ·cases h
 ne:=fun ts h=>by
  unfold zu0 at h;split at h
  ·injection h with h;exact z069 h
  ·cases h
theorem z03x {ts:List Tok}:sSys L ts≠.out:=fun h=>by
 unfold sSys at h
 rcases z1d h with h|⟨_,_,_,h⟩
 ·exact zmk zu1 _ _ (Nat.le_refl _) h
 rcases z1d h with h|⟨_,_,_,h⟩
 ·exact zmk zu2 _ _ (Nat.le_refl _) h
 rcases z1d h with h|⟨_,_,_,h⟩
 ·exact zmk z00b _ _ (Nat.le_refl _) h
 ·cases h
end
section
variable {a:z00} (h:a.f_e≠0)
include h
theorem z02l:z25 a [(ByteArray.mk #[98,108,111,99,107]),(ByteArray.mk #[100,114,111,112]),(ByteArray.mk #[108,111,115,115,121])]=some (a,-1):=z004 h _ (by decide)
theorem z02m:z7s a=some (a,[]):=Sn.unf fun n=>zts h n
theorem z03y (l:List ByteArray):z2k (tp7 a l)=some (.inr (.inr (tp7 a l))):=by
 unfold z2k
 show (z0r a _>>=_)=_
 rw [zid h];rfl
theorem z03z (l:List z5f):z41 (tp7 a l)=some (.inr (.inr (tp7 a l))):=by
 unfold z41
 rw [if_neg (by simpa [tp7] using h)];rfl
theorem z040 (l:List ByteArray):z42 (tp7 a l)=some (.inr (.inr (tp7 a l))):=by
 unfold z42
 show (z0r a _>>=_)=_
 rw [zid h];rfl
theorem z090 (l:List z29):z7g (tp7 a l)=some (.inr (.inr (tp7 a l))):=by
 unfold z7g
 show (z0r a _>>=_)=_
 rw [zid h];rfl
theorem z041 (l:List z3f):z7h (tp7 a l)=some (.inr (.inr (tp7 a l))):=by
 unfold z7h
 show (z0r a _>>=_)=_
 rw [zid h];rfl
theorem z00c (l:List z3l):z6l (tp7 a l)=some (.inr (.inr (tp7 a l))):=by
 unfold z6l
 show (z0r a _>>=_)=_
 rw [zid h];rfl
theorem z091 (l:List ByteArray):LF z2k a l=some (a,l):=zmv (z03y h l)
theorem z092 (l:List z5f):LF z41 a l=some (a,l):=zmv (z03z h l)
theorem z093 (l:List ByteArray):LF z42 a l=some (a,l):=zmv (z040 h l)
end
theorem eQ {a:z00} (h:a.f_e≠0):(∀ w,z08 a w=some a)∧z0o a=some (a,ByteArray.mk #[])∧z2i a=some (a,0)∧(∀ c,z2q a c=some a)∧(∀ l,LF z2k a l=some (a,l))∧(∀ l,LF z41 a l=some (a,l))∧(∀ l,LF z42 a l=some (a,l))∧z7s a=some (a,[]):=⟨zf8 h,zpe h,z08s h,zpd h,z091 h,z092 h,z093 h,z02m h⟩
theorem z5y (x:ByteArray):app 16 [] [x]=some [x]:=rfl
theorem zar (a:z00):z00.mk a.f_l a.f_end a.f_e a.f_at a.f_deep a.f_in=a:=rfl
instance:Inhabited z5f:=⟨⟨0,nB,0⟩⟩
instance:Inhabited z29:=⟨⟨nB,0,0,nB,nB,[]⟩⟩
instance:Inhabited z3f:=⟨⟨nB,[]⟩⟩
instance:Inhabited z3l:=⟨⟨nB,[],[]⟩⟩
theorem z06a (a:z00):z6v a=z0o a>>=fun v1=>z25 v1.1 [(ByteArray.mk #[98,108,111,99,107]),(ByteArray.mk #[100,114,111,112]),(ByteArray.mk #[108,111,115,115,121])]>>=fun v2 =>
  if (decide (v2.2<0)) then (z2q v2.1 5>>=fun v3=>some (v3,(z29.mk v1.2 v2.2 0 (ByteArray.mk #[]) (ByteArray.mk #[]) [])))
  else (z2i v2.1>>=fun v4=>z08 v4.1 (ByteArray.mk #[102,114,111,109])>>=fun v5=>z0o v5>>=fun v6=>z08 v6.1 (ByteArray.mk #[116,111])>>=fun v7=>z0o v7>>=fun v8=>z08 v8.1 (ByteArray.mk #[123])>>=fun v9 =>
   z0o v9>>=fun v10=>app 16 [] [v10.2]>>=fun v11=>LF z2k v10.1 v11>>=fun w=>z08 w.1 (ByteArray.mk #[125])>>=fun v15=>z08 v15 (ByteArray.mk #[59])>>=fun v16=>some (v16,(z29.mk v1.2 v2.2 v4.2 v6.2 v8.2 w.2))):=by
 simp only [← zvi];rfl
theorem z06b (a:z00):z87 a=z0o a>>=fun v1=>z08 v1.1 (ByteArray.mk #[123])>>=fun v2=>LF z41 v2 []>>=fun w=>z08 w.1 (ByteArray.mk #[125])>>=fun v9=>some (v9,(z3f.mk v1.2 w.2)):=by
 simp only [← zvi];rfl
theorem z06c (a:z00):z89 a=z0o a>>=fun v1=>z08 v1.1 (ByteArray.mk #[123])>>=fun v2=>LF z42 v2 []>>=fun w=>z7s w.1>>=fun v7=>z08 v7.1 (ByteArray.mk #[125])>>=fun v8=>some (v8,(z3l.mk v1.2 w.2 v7.2)):=by
 simp only [← zvi];rfl
abbrev mkCh:zdc→z00→z00 × z29:=fun v a=>(a,cCh v)
abbrev mkMo:zcf→z00→z00 × z5f:=fun v a=>(a,cMo v)
abbrev mkRu:zdd→z00→z00 × z3f:=fun v a=>(a,cRu v)
abbrev mkPr:zde→z00→z00 × z3l:=fun v a=>(a,cPr v)
section
variable {L i:Int}
theorem z094 {ts:List Tok} {t:ByteArray} (hl:ts.length+1≤2000):TP L 0 i Prod.fst (fun v a=>(a,[t]++v.map id)) 0 (fun _=>LF z2k (PS L ts 0 i) [t]) (zhb (mTag L) (ts.length+1) ts):=by
 refine zpf (cv:=id) zvj (fun ts l ht hm=>?_) (fun ts o ht hm=>?_) (fun a l h=>z03y h l) _ ts [t] (by omega) (by simp;omega)
 ·unfold mTag at hm
  cases hs:z6j (ByteArray.mk #[44]) ts with
  | true=>rw [hs] at hm;cases hm
  | false =>
   unfold z2k
   show (z0r (PS L ts 0 i) _>>=_)=_
   rw [zb7 ht,hs];rfl
 ·unfold mTag at hm
  cases hs:z6j (ByteArray.mk #[44]) ts with
  | false=>rw [hs] at hm;cases hm
  | true =>
   rw [hs] at hm;injection hm with hm;subst hm
   have l0:ts.tail.length≤2000:=by have:=z6s hs;omega
   refine ⟨z0o (PS L ts.tail 0 i),zdx l0,fun l hll=>?_⟩
   unfold z2k
   show (z0r (PS L ts 0 i) _>>=_)=_
   rw [zb7 ht,hs]
   simp only [Option.bind_eq_bind,Option.bind_some,if_true]
   congr 1;funext v
   show (app 16 l [v.2]).bind _=_
   rw [z82 (by simp;omega)];rfl
theorem z095 {ts:List Tok} {H:Nat} (hl:ts.length≤2000):TP L 0 i Prod.fst mkCh H (fun _=>z6v (PS L ts 0 i)) (ztt L ts):=by
 refine TP.eq (y:=fun _=>_) ?_ (fun _=>z06a _)
 unfold ztt
 refine TP.bind (π':=Prod.fst) (mk':=mkCh) (zdx hl) (fun m r1 h1=>?_) (fun r c p hc he=>z4w (by simp only [z02l (a:=r.1) (z5n hc he),zpd (a:=r.1) (z5n hc he),Option.bind_eq_bind,Option.bind_some,neg1,if_true];rfl) ⟨he.1,he.2⟩)
 have l1:=z58 (z4l h1).1 hl
 have hw:=zq8 (L:=L) (d:=0) (i:=i) l1 z009 (by decide)
 cases hs:za0 z009 r1 with
 | none =>
  rw [hs] at hw
  refine TP.err (r:=((⟨r1.map tokT,L,5,sAt L r1,0,i⟩:z00),⟨m,-1,0,nB,nB,[]⟩)) (fun n=>?_) (by decide) ⟨rfl,rfl⟩
  show (z25 (PS L r1 0 i) z009).bind _=_
  rw [hw]
  simp only [Option.bind_some,neg1,if_true,zo8,Option.bind_eq_bind]
 | some j =>
  rw [hs] at hw
  have q1:decide (((j:Nat):Int)<0)=false:=by simp
  have l2:r1.tail.length≤2000:=by have:=(zbj hs).1;omega
  refine TP.eq (y:=fun _=>z2i (PS L r1.tail 0 i)>>=fun v4=>z08 v4.1 (ByteArray.mk #[102,114,111,109])>>=fun v5=>z0o v5>>=fun v6=>z08 v6.1 (ByteArray.mk #[116,111])>>=fun v7=>z0o v7>>=fun v8=>z08 v8.1 (ByteArray.mk #[123])>>=fun v9 =>
   z0o v9>>=fun v10=>app 16 [] [v10.2]>>=fun v11=>LF z2k v10.1 v11>>=fun w=>z08 w.1 (ByteArray.mk #[125])>>=fun v15=>z08 v15 (ByteArray.mk #[59])>>=fun v16=>some (v16,(z29.mk m (j:Int) v4.2 v6.2 v8.2 w.2))) ?_ (fun n=>by
   show (z25 (PS L r1 0 i) z009).bind _=_
   rw [hw]
   simp only [Option.bind_some,q1,Bool.false_eq_true,if_false])
  refine TP.bind (π':=Prod.fst) (mk':=mkCh) (z026 l2) (fun z r2 h2=>?_) (fun r c p hc he=>z4w (by simp only [eQ (a:=r.1) (z5n hc he),z5y,zar,Option.bind_eq_bind,Option.bind_some];rfl) ⟨he.1,he.2⟩)
  have l2:=z58 (zie h2).1 l2
  refine TP.bind (π':=Prod.fst) (mk':=mkCh) (z96 l2 _) (fun _ r3 h3=>?_) (fun r c p hc he=>z4w (by simp only [eQ (a:=r) (z5n hc he),z5y,zar,Option.bind_eq_bind,Option.bind_some];rfl) ⟨he.1,he.2⟩)
  have l3:=z58 (z34 h3).1 l2
  refine TP.bind (π':=Prod.fst) (mk':=mkCh) (zdx l3) (fun a r4 h4=>?_) (fun r c p hc he=>z4w (by simp only [eQ (a:=r.1) (z5n hc he),z5y,zar,Option.bind_eq_bind,Option.bind_some];rfl) ⟨he.1,he.2⟩)
  have l4:=z58 (z4l h4).1 l3
  refine TP.bind (π':=Prod.fst) (mk':=mkCh) (z96 l4 _) (fun _ r5 h5=>?_) (fun r c p hc he=>z4w (by simp only [eQ (a:=r) (z5n hc he),z5y,zar,Option.bind_eq_bind,Option.bind_some];rfl) ⟨he.1,he.2⟩)
  have l5:=z58 (z34 h5).1 l4
  refine TP.bind (π':=Prod.fst) (mk':=mkCh) (zdx l5) (fun b r6 h6=>?_) (fun r c p hc he=>z4w (by simp only [eQ (a:=r.1) (z5n hc he),z5y,zar,Option.bind_eq_bind,Option.bind_some];rfl) ⟨he.1,he.2⟩)
  have l6:=z58 (z4l h6).1 l5
  refine TP.bind (π':=Prod.fst) (mk':=mkCh) (z96 l6 _) (fun _ r7 h7=>?_) (fun r c p hc he=>z4w (by simp only [eQ (a:=r) (z5n hc he),z5y,zar,Option.bind_eq_bind,Option.bind_some];rfl) ⟨he.1,he.2⟩)
  have l7:=z58 (z34 h7).1 l6
  refine TP.bind (π':=Prod.fst) (mk':=mkCh) (zdx l7) (fun t r8 h8=>?_) (fun r c p hc he=>z4w (by simp only [eQ (a:=r.1) (z5n hc he),z5y,zar,Option.bind_eq_bind,Option.bind_some];rfl) ⟨he.1,he.2⟩)
  have z8:=(z4l h8).2
  have l8:=z58 (z4l h8).1 l7
  refine TP.eq (y:=fun _=>LF z2k (PS L r8 0 i) [t]>>=fun w=>z08 w.1 (ByteArray.mk #[125])>>=fun v15=>z08 v15 (ByteArray.mk #[59])>>=fun v16=>some (v16,(z29.mk m (j:Int) z a b w.2))) ?_ (fun n=>rfl)
  refine TP.bind (π':=Prod.fst) (mk':=mkCh) ((z094 (t:=t) (by omega)).mono (Nat.zero_le _)) (fun l r9 h9=>?_) (fun r c p hc he=>z4w (by simp only [eQ (a:=r.1) (z5n hc he),z5y,zar,Option.bind_eq_bind,Option.bind_some];rfl) ⟨he.1,he.2⟩)
  have l9:=z58 (zfu zvj _ _ _ _ h9) l8
  refine TP.bind (π':=Prod.fst) (mk':=mkCh) (z96 l9 _) (fun _ r10 h10=>?_) (fun r c p hc he=>z4w (by simp only [eQ (a:=r) (z5n hc he),z5y,zar,Option.bind_eq_bind,Option.bind_some];rfl) ⟨he.1,he.2⟩)
  have l10:=z58 (z34 h10).1 l9
  refine TP.bind (π':=Prod.fst) (mk':=mkCh) (z96 l10 _) (fun _ r11 h11=>TP.pure (fun n=>?_)) (fun r c p hc he=>z4w (by simp only [eQ (a:=r) (z5n hc he),z5y,zar,Option.bind_eq_bind,Option.bind_some];rfl) ⟨he.1,he.2⟩)
  simp [mkCh,cCh]
theorem z096 {ts:List Tok} (hl:ts.length≤2000):TP L 0 i Prod.fst mkMo 0 (fun _=>z2i (PS L ts 0 i)>>=fun v4=>z0o v4.1>>=fun v5=>z2i v5.1>>=fun v6=>z08 v6.1 (ByteArray.mk #[59])>>=fun v7=>some (v7,z5f.mk v4.2 v5.2 v6.2)) (ztu L ts):=by
 unfold ztu
 refine TP.bind (π':=Prod.fst) (mk':=mkMo) (z026 hl) (fun a r1 h1=>?_) (fun r c p hc he=>z4w (by simp only [eQ (a:=r.1) (z5n hc he),z5y,zar,Option.bind_eq_bind,Option.bind_some];rfl) ⟨he.1,he.2⟩)
 have l1:=z58 (zie h1).1 hl
 refine TP.bind (π':=Prod.fst) (mk':=mkMo) (zdx l1) (fun t r2 h2=>?_) (fun r c p hc he=>z4w (by simp only [eQ (a:=r.1) (z5n hc he),z5y,zar,Option.bind_eq_bind,Option.bind_some];rfl) ⟨he.1,he.2⟩)
 have l2:=z58 (z4l h2).1 l1
 refine TP.bind (π':=Prod.fst) (mk':=mkMo) (z026 l2) (fun b r3 h3=>?_) (fun r c p hc he=>z4w (by simp only [eQ (a:=r.1) (z5n hc he),z5y,zar,Option.bind_eq_bind,Option.bind_some];rfl) ⟨he.1,he.2⟩)
 have l3:=z58 (zie h3).1 l2
 exact TP.bind (π':=Prod.fst) (mk':=mkMo) (z96 l3 _) (fun _ r4 h4=>TP.pure (fun n=>rfl)) (fun r c p hc he=>⟨(r,⟨a,t,b⟩),he,fun n=>.inl rfl⟩)
theorem z06d {ts:List Tok} (hl:ts.length≤2000):TP L 0 i Prod.fst (fun v a=>(a,[]++v.map cMo)) 0 (fun _=>LF z41 (PS L ts 0 i) []) (zhb (ztv L) (ts.length+1) ts):=by
 refine zpf (cv:=cMo) zqc (fun ts l ht hm=>?_) (fun ts o ht hm=>?_) (fun a l h=>z03z h l) _ ts [] (by omega) (by simp;omega)
 ·unfold ztv at hm
  cases hs:z6j (ByteArray.mk #[125]) ts with
  | false=>rw [hs] at hm;cases hm
  | true =>
   unfold z41
   rw [if_pos (by rfl)]
   show ((z3k (PS L ts 0 i) (ByteArray.mk #[125])>>=fun v5=>some (!v5))>>=_)=_
   rw [zje,hs];rfl
 ·unfold ztv at hm
  cases hs:z6j (ByteArray.mk #[125]) ts with
  | true=>rw [hs] at hm;cases hm
  | false =>
   rw [hs] at hm;injection hm with hm;subst hm
   refine ⟨_,z096 ht,fun l hll=>?_⟩
   unfold z41
   rw [if_pos (by rfl)]
   show ((z3k (PS L ts 0 i) (ByteArray.mk #[125])>>=fun v5=>some (!v5))>>=_)=_
   rw [zje,hs]
   simp only [Option.bind_eq_bind,Option.bind_some,Bool.not_false,if_true,Option.bind_assoc]
   congr 1;funext v4
   congr 1;funext v5
   congr 1;funext v6
   congr 1;funext v7
   show (app 32 l [_]).bind _=_
   rw [z82 (by simp;omega)];rfl
theorem z097 {ts:List Tok} {H:Nat} (hl:ts.length≤2000):TP L 0 i Prod.fst mkRu H (fun _=>z87 (PS L ts 0 i)) (ztw L ts):=by
 refine TP.eq (y:=fun _=>_) ?_ (fun _=>z06b _)
 unfold ztw
 refine TP.bind (π':=Prod.fst) (mk':=mkRu) (zdx hl) (fun m r1 h1=>?_) (fun r c p hc he=>z4w (by simp only [eQ (a:=r.1) (z5n hc he),z5y,zar,Option.bind_eq_bind,Option.bind_some];rfl) ⟨he.1,he.2⟩)
 have l1:=z58 (z4l h1).1 hl
 refine TP.bind (π':=Prod.fst) (mk':=mkRu) (z96 l1 _) (fun _ r2 h2=>?_) (fun r c p hc he=>z4w (by simp only [eQ (a:=r) (z5n hc he),z5y,zar,Option.bind_eq_bind,Option.bind_some];rfl) ⟨he.1,he.2⟩)
 have l2:=z58 (z34 h2).1 l1
 refine TP.bind (π':=Prod.fst) (mk':=mkRu) ((z06d l2).mono (Nat.zero_le _)) (fun l r3 h3=>?_) (fun r c p hc he=>z4w (by simp only [eQ (a:=r.1) (z5n hc he),z5y,zar,Option.bind_eq_bind,Option.bind_some];rfl) ⟨he.1,he.2⟩)
 have l3:=z58 (zfu zqc _ _ _ _ h3) l2
 refine TP.bind (π':=Prod.fst) (mk':=mkRu) (z96 l3 _) (fun _ r4 h4=>TP.pure (fun n=>rfl)) (fun r c p hc he=>z4w (by simp only [eQ (a:=r) (z5n hc he),z5y,zar,Option.bind_eq_bind,Option.bind_some];rfl) ⟨he.1,he.2⟩)
theorem z098 {ts:List Tok} (hl:ts.length≤2000):TP L 0 i Prod.fst (fun v a=>(a,[]++v.map id)) 0 (fun _=>LF z42 (PS L ts 0 i) []) (zhb (mVar L) (ts.length+1) ts):=by
 refine zpf (cv:=id) zvk (fun ts l ht hm=>?_) (fun ts o ht hm=>?_) (fun a l h=>z040 h l) _ ts [] (by omega) (by simp;omega)
 ·unfold mVar at hm
  cases hs:z6j (ByteArray.mk #[118,97,114]) ts with
  | true=>rw [hs] at hm;cases hm
  | false =>
   unfold z42
   show (z0r (PS L ts 0 i) _>>=_)=_
   rw [zb7 ht,hs];rfl
 ·unfold mVar at hm
  cases hs:z6j (ByteArray.mk #[118,97,114]) ts with
  | false=>rw [hs] at hm;cases hm
  | true =>
   rw [hs] at hm;injection hm with hm;subst hm
   have l0:ts.tail.length≤2000:=by have:=z6s hs;omega
   refine ⟨z0o (PS L ts.tail 0 i)>>=fun v4=>z08 v4.1 (ByteArray.mk #[59])>>=fun v6=>some (v6,v4.2),?_,fun l hll=>?_⟩
   ·refine TP.bind (π':=Prod.fst) (mk':=fun v a=>(a,id v)) (zdx l0) (fun m r1 h1=>?_) (fun r c p hc he=>z4w (by simp only [eQ (a:=r.1) (z5n hc he),z5y,zar,Option.bind_eq_bind,Option.bind_some]) ⟨he.1,he.2⟩)
    exact TP.bind (π':=Prod.fst) (mk':=fun v a=>(a,id v)) (z96 (z58 (z4l h1).1 l0) _) (fun _ r2 h2=>TP.pure (fun n=>rfl)) (fun r c p hc he=>⟨(r,m),he,fun n=>.inl rfl⟩)
   ·unfold z42
    show (z0r (PS L ts 0 i) _>>=_)=_
    rw [zb7 ht,hs]
    simp only [Option.bind_eq_bind,Option.bind_some,if_true,Option.bind_assoc]
    congr 1;funext v
    show (app 16 l [v.2]).bind _=_
    rw [z82 (by simp;omega)];rfl
theorem z099 {ts:List Tok} {H:Nat} (hl:ts.length≤2000):TP L 0 0 Prod.fst mkL H (fun _=>z7s (PS L ts 0 0)) (z00a L ts):=by
 have h:=(pt L (3*ts.length+2)).stmts 0 ts [] (by omega) hl (by simpa using hl)
 have h:=TP.up (F:=fun n=>z1c n (PS L ts 0 0)) rfl (fun n=>rfl) h
 have h:=h.unf.mono (Nat.zero_le H)
 intro hne
 obtain ⟨r,g,s⟩:=h hne
 refine ⟨r,?_,s⟩
 unfold z00a
 simpa using g
theorem z09a {ts:List Tok} {H:Nat} (hl:ts.length≤2000):TP L 0 0 Prod.fst mkPr H (fun _=>z89 (PS L ts 0 0)) (ztx L ts):=by
 refine TP.eq (y:=fun _=>_) ?_ (fun _=>z06c _)
 unfold ztx
 refine TP.bind (π':=Prod.fst) (mk':=mkPr) (zdx hl) (fun m r1 h1=>?_) (fun r c p hc he=>z4w (by simp only [eQ (a:=r.1) (z5n hc he),z5y,zar,Option.bind_eq_bind,Option.bind_some];rfl) ⟨he.1,he.2⟩)
 have l1:=z58 (z4l h1).1 hl
 refine TP.bind (π':=Prod.fst) (mk':=mkPr) (z96 l1 _) (fun _ r2 h2=>?_) (fun r c p hc he=>z4w (by simp only [eQ (a:=r) (z5n hc he),z5y,zar,Option.bind_eq_bind,Option.bind_some];rfl) ⟨he.1,he.2⟩)
 have l2:=z58 (z34 h2).1 l1
 refine TP.bind (π':=Prod.fst) (mk':=mkPr) ((z098 l2).mono (Nat.zero_le _)) (fun l r3 h3=>?_) (fun r c p hc he=>z4w (by simp only [eQ (a:=r.1) (z5n hc he),z5y,zar,Option.bind_eq_bind,Option.bind_some];rfl) ⟨he.1,he.2⟩)
 have l3:=z58 (zfu zvk _ _ _ _ h3) l2
 refine TP.bind (π':=Prod.fst) (mk':=mkPr) (z099 l3) (fun b r4 h4=>?_) (fun r c p hc he=>z4w (by simp only [eQ (a:=r.1) (z5n hc he),z5y,zar,Option.bind_eq_bind,Option.bind_some];rfl) ⟨he.1,he.2⟩)
 have l4:=z58 (zvl h4) l3
 refine TP.bind (π':=Prod.fst) (mk':=mkPr) (z96 l4 _) (fun _ r5 h5=>TP.pure (fun n=>?_)) (fun r c p hc he=>z4w (by simp only [eQ (a:=r) (z5n hc he),z5y,zar,Option.bind_eq_bind,Option.bind_some];rfl) ⟨he.1,he.2⟩)
 simp [mkPr,cPr]
theorem z06e {ts:List Tok} (hl:ts.length≤2000):TP L 0 0 Prod.fst (fun v a=>(a,[]++v.map cCh)) 0 (fun _=>LF z7g (PS L ts 0 0) []) (zhb (zty L) (ts.length+1) ts):=by
 refine zpf (cv:=cCh) zu1 (fun ts l ht hm=>?_) (fun ts o ht hm=>?_) (fun a l h=>z090 h l) _ ts [] (by omega) (by simp;omega)
 ·unfold zty at hm
  cases hs:z6j (ByteArray.mk #[99,104,97,110]) ts with
  | true=>rw [hs] at hm;cases hm
  | false =>
   unfold z7g
   show (z0r (PS L ts 0 0) _>>=_)=_
   rw [zb7 ht,hs];rfl
 ·unfold zty at hm
  cases hs:z6j (ByteArray.mk #[99,104,97,110]) ts with
  | false=>rw [hs] at hm;cases hm
  | true =>
   rw [hs] at hm;injection hm with hm;subst hm
   have l0:ts.tail.length≤2000:=by have:=z6s hs;omega
   refine ⟨z6v (PS L ts.tail 0 0),z095 l0,fun l hll=>?_⟩
   unfold z7g
   show (z0r (PS L ts 0 0) _>>=_)=_
   rw [zb7 ht,hs]
   simp only [Option.bind_eq_bind,Option.bind_some,if_true]
   congr 1;funext v
   show (app 88 l [v.2]).bind _=_
   rw [z82 (by simp;omega)];rfl
theorem z06f {ts:List Tok} (hl:ts.length≤2000):TP L 0 0 Prod.fst (fun v a=>(a,[]++v.map cRu)) 0 (fun _=>LF z7h (PS L ts 0 0) []) (zhb (ztz L) (ts.length+1) ts):=by
 refine zpf (cv:=cRu) zu2 (fun ts l ht hm=>?_) (fun ts o ht hm=>?_) (fun a l h=>z041 h l) _ ts [] (by omega) (by simp;omega)
 ·unfold ztz at hm
  cases hs:z6j (ByteArray.mk #[114,117,108,101]) ts with
  | true=>rw [hs] at hm;cases hm
  | false =>
   unfold z7h
   show (z0r (PS L ts 0 0) _>>=_)=_
   rw [zb7 ht,hs];rfl
 ·unfold ztz at hm
  cases hs:z6j (ByteArray.mk #[114,117,108,101]) ts with
  | false=>rw [hs] at hm;cases hm
  | true =>
   rw [hs] at hm;injection hm with hm;subst hm
   have l0:ts.tail.length≤2000:=by have:=z6s hs;omega
   refine ⟨z87 (PS L ts.tail 0 0),z097 l0,fun l hll=>?_⟩
   unfold z7h
   show (z0r (PS L ts 0 0) _>>=_)=_
   rw [zb7 ht,hs]
   simp only [Option.bind_eq_bind,Option.bind_some,if_true]
   congr 1;funext v
   show (app 40 l [v.2]).bind _=_
   rw [z82 (by simp;omega)];rfl
theorem z06g {ts:List Tok} (hl:ts.length≤2000):TP L 0 0 Prod.fst (fun v a=>(a,[]++v.map cPr)) 0 (fun _=>LF z6l (PS L ts 0 0) []) (zhb (zu0 L) (ts.length+1) ts):=by
 refine zpf (cv:=cPr) z00b (fun ts l ht hm=>?_) (fun ts o ht hm=>?_) (fun a l h=>z00c h l) _ ts [] (by omega) (by simp;omega)
 ·unfold zu0 at hm
  cases hs:z6j (ByteArray.mk #[112,114,111,99]) ts with
  | true=>rw [hs] at hm;cases hm
  | false =>
   unfold z6l
   show (z0r (PS L ts 0 0) _>>=_)=_
   rw [zb7 ht,hs];rfl
 ·unfold zu0 at hm
  cases hs:z6j (ByteArray.mk #[112,114,111,99]) ts with
  | false=>rw [hs] at hm;cases hm
  | true =>
   rw [hs] at hm;injection hm with hm;subst hm
   have l0:ts.tail.length≤2000:=by have:=z6s hs;omega
   refine ⟨z89 (PS L ts.tail 0 0),z09a l0,fun l hll=>?_⟩
   unfold z6l
   show (z0r (PS L ts 0 0) _>>=_)=_
   rw [zb7 ht,hs]
   simp only [Option.bind_eq_bind,Option.bind_some,if_true]
   congr 1;funext v
   show (app 64 l [v.2]).bind _=_
   rw [z82 (by simp;omega)];rfl
end
noncomputable def pAll (a:z00):Option (z00 × z18):=LF z7g a []>>=fun c=>LF z7h c.1 []>>=fun r=>LF z6l r.1 []>>=fun p=>some (p.1,⟨c.2,r.2,p.2⟩)
noncomputable def pFin (v:z00 × z18):Option (z18 × Int × Int) :=
 if (decide ((v.1.f_l.length:Int) > 0)) then (z2q v.1 5>>=fun w=>if (w.f_e != 0) then some ((z18.mk [] [] []),w.f_at,w.f_e) else some (v.2,0,0))
 else (if (v.1.f_e != 0) then some ((z18.mk [] [] []),v.1.f_at,v.1.f_e) else some (v.2,0,0))
theorem zvm (s:ByteArray):zam s=zhu s>>=fun v1=>if (v1.2.2 != 0) then some ((z18.mk [] [] []),v1.2.1,v1.2.2) else pAll ⟨v1.1,(s.size:Int),0,0,0,0⟩>>=pFin:=by
 unfold pAll
 simp only [Option.bind_eq_bind,Option.bind_assoc,Option.bind_some]
 simp only [← Option.bind_eq_bind,← zvi]
 rfl
section
variable {L:Int} {ts:List Tok}
theorem z0ak (hl:ts.length≤2000):TP L 0 0 Prod.fst (fun v a=>(a,cSys v)) 0 (fun _=>pAll (PS L ts 0 0)) (sSys L ts):=by
 unfold sSys pAll
 refine TP.bind (π':=Prod.fst) (mk':=fun v a=>(a,cSys v)) (z06e hl) (fun c r1 h1=>?_) (fun r c p hc he=>⟨(r.1,⟨r.2,[],[]⟩),he,fun n=>.inl (by rw [zmv (z041 (z5n hc he) [])];show (LF z6l r.1 []>>=_)=_;rw [zmv (z00c (z5n hc he) [])];rfl)⟩)
 have l1:=z58 (zfu zu1 _ _ _ _ h1) hl
 refine TP.bind (π':=Prod.fst) (mk':=fun v a=>(a,cSys v)) (z06f l1) (fun d r2 h2=>?_) (fun r cc p hc he=>⟨(r.1,⟨c.map cCh,r.2,[]⟩),he,fun n=>.inl (by rw [zmv (z00c (z5n hc he) [])];rfl)⟩)
 have l2:=z58 (zfu zu2 _ _ _ _ h2) l1
 exact TP.bind (π':=Prod.fst) (mk':=fun v a=>(a,cSys v)) (z06g l2) (fun d r2 h2=>TP.pure (fun n=>rfl)) (fun r cc p hc he=>⟨(r.1,⟨c.map cCh,d.map cRu,r.2⟩),he,fun n=>.inl rfl⟩)
theorem z06h {s:ByteArray} {p:Int} (hs:zhu s=some (ts.map tokT,p,0)) (hl:ts.length≤2000):zam s=some (match sAll (s.size:Int) ts with
  | .ok v _=>(cSys v,0,0)
  | .er c p=>(⟨[],[],[]⟩,p,c)
  | .out=>(⟨[],[],[]⟩,0,0)):=by
 rw [zvm,hs]
 show (pAll (PS (s.size:Int) ts 0 0)>>=pFin)=_
 obtain ⟨r,g,q⟩:=z0ak (L:=(s.size:Int)) hl z03x
 have q:pAll (PS (s.size:Int) ts 0 0)=some r:=by
  rcases q 0 with q|⟨_,q⟩
  ·exact q
  ·omega
 rw [q]
 show pFin r=_
 unfold sAll
 cases hv:sSys (s.size:Int) ts with
 | ok v rest =>
  rw [hv] at g
  have g:r=(PS (s.size:Int) rest 0 0,cSys v):=g
  subst g
  cases rest with
  | nil=>rfl
  | cons t rest =>
   unfold pFin
   rw [if_pos (by simp [PS])]
   show (z2q (PS _ _ 0 0) 5>>=_)=_
   rw [zo8];rfl
 | er c p =>
  rw [hv] at g
  obtain ⟨hc,he⟩:=g
  have h:r.1.f_e≠0:=z5n hc he
  have h1:(r.1.f_e != 0)=true:=e1 h
  unfold pFin
  rw [zpd h]
  simp only [Option.bind_eq_bind,Option.bind_some,h1,if_true,ite_self]
  rw [he.1,he.2];rfl
 | out=>exact absurd hv z03x
end
def emp:z4m:=⟨[],[],[]⟩
def fin (L:Int) (z:List Tok × Int × Int):z4m × Int × Int:=if z.2.2 != 0 then (emp,z.2.1,z.2.2) else match sAll L z.1 with
 | .ok v _=>(v,0,0)
 | .er c p=>(emp,p,c)
 | .out=>(emp,0,0)
def gAll (s:ByteArray):z4m × Int × Int:=fin (s.size:Int) (told s.size (lexS s.data.toList 0))
theorem z02n (n:Nat) (z:List Tok × Option (Nat × Int)):(told n z).1.length≤2000:=by
 unfold told
 split
 ·simp
 ·split
  ·simp
  ·simp;omega
theorem parse_f {s:ByteArray} (hs:s.size≤4194304):zam s=some (cSys (gAll s).1,(gAll s).2.1,(gAll s).2.2):=by
 have hl:=z09b s hs
 have h2:=z02n s.size (lexS s.data.toList 0)
 unfold gAll fin
 unfold finT at hl
 generalize told s.size (lexS s.data.toList 0)=z at *
 obtain ⟨ts,p,e⟩:=z
 cases he:(e != 0) with
 | true =>
  rw [zvm,hl]
  simp only [Option.bind_eq_bind,Option.bind_some,he,if_true]
  rfl
 | false =>
  have he':e=0:=by simpa using he
  subst he'
  rw [z06h hl h2]
  simp only [he,Bool.false_eq_true,if_false]
  cases sAll (s.size:Int) ts <;> rfl
def lexF:Nat→Bs→Nat→List Tok × Option (Nat × Int)
 | 0,_,_=>([],none)
 | n+1,l,p=>match l with
  | []=>([],none)
  | b::r =>
   if isB b then lexF n r (p+1)
   else match zn0 (b::r) with
    | .error e=>([],some (p,e))
    | .ok w=>let z:=lexF n (r.drop (w.len - 1)) (p+w.len);(⟨w.kind,(b::r).take w.len,w.num,p⟩::z.1,z.2)
theorem z06i:∀ n l p,l.length≤n→lexS l p=lexF n l p:=by
 intro n
 induction n with
 | zero =>
  intro l p h
  have:l=[]:=List.eq_nil_of_length_eq_zero (by omega)
  subst this;unfold lexS;rfl
 | succ n ih =>
  intro l p h
  cases l with
  | nil=>unfold lexS;rfl
  | cons b r =>
   simp only [List.length_cons] at h
   unfold lexS
   simp only [lexF]
   split
   ·exact ih _ _ (by omega)
   ·cases zn0 (b::r) with
    | error e=>rfl
    | ok w=>simp only [ih (r.drop (w.len - 1)) (p+w.len) (by simp;omega)]
def gF (s:ByteArray):z4m × Int × Int:=fin (s.size:Int) (told s.size (lexF s.size s.data.toList 0))
theorem gF_eq (s:ByteArray):gAll s=gF s:=by
 unfold gAll gF
 rw [z06i s.size _ _ (Nat.le_of_eq (by cases s;simp [ByteArray.size]))]
abbrev T1:ByteArray:=ByteArray.mk #[112,114,111,99,32,112,32,123,32,120,32,61,32,49,32,43,32,50,32,42,32,51,32,59,32,125]
end Go.Proofs.YtimbigpplbbjaaaGreatDoor.Abs.Par

/- What parsing is, over words; the program's reader does it: signs, names, expressions. -/
import Derived.Test.YtimbigpplbbjaaaGreatDoorPlB
import Derived.KernelRfl
namespace Go.Proofs.YtimbigpplbbjaaaGreatDoor.Abs.Par
open Go Go.RowKit Wri
set_option linter.unusedVariables false
set_option linter.unusedSimpArgs false
inductive Rs (α:Type) where
 | ok (v:α) (ts:List Tok)
 | er (c p:Int)
 | out
def Rs.bind {α β:Type} (x:Rs α) (k:α→List Tok→Rs β):Rs β:=match x with
 | .ok v ts=>k v ts
 | .er c p=>.er c p
 | .out=>.out
section
variable (L:Int)
def sAt:List Tok→Int
 | []=>L
 | t::_=>(t.at_:Int)
def z6i (w:ByteArray):List Tok→Bool
 | []=>false
 | t::_=>decide (t.kind≥3)&&(t.text==w.data.toList)
def sOf (k:Int):List Tok→Bool
 | []=>false
 | t::_=>t.kind==k
def zan (w:ByteArray) (ts:List Tok):Rs Unit:=if z6i w ts then .ok () ts.tail else .er 5 (sAt L ts)
def zec:List Tok→Rs ByteArray
 | []=>.er 5 L
 | t::r=>if t.kind==1 then .ok ⟨t.text.toArray⟩ r else .er 5 (t.at_:Int)
def sNum:List Tok→Rs Int
 | []=>.er 5 L
 | t::r=>if t.kind==2 then .ok (t.num:Int) r else .er 5 (t.at_:Int)
def z9z:List ByteArray→List Tok→Option Nat
 | [],_=>none
 | w::l,ts=>if z6i w ts then some 0 else (z9z l ts).map (· + 1)
def zE:z4n:=⟨0,0,ByteArray.mk #[],[]⟩
def zC:zcg:=⟨0,zE,zE⟩
def mulS:List ByteArray:=[(ByteArray.mk #[42]),(ByteArray.mk #[47]),(ByteArray.mk #[37])]
def addS:List ByteArray:=[(ByteArray.mk #[43]),(ByteArray.mk #[45])]
mutual
def zf3:Nat→Nat→List Tok→Rs z4n
 | 0,_,_=>.out
 | f+1,d,ts =>
  if z6i (ByteArray.mk #[45]) ts then (if d=24 then .er 6 (sAt L ts) else (zf3 f (d+1) ts.tail).bind fun e r=>.ok ⟨3,0,ByteArray.mk #[],[e]⟩ r)
  else if z6i (ByteArray.mk #[40]) ts then (if d=24 then .er 6 (sAt L ts) else (zon f (d+1) ts.tail).bind fun e r=>(zan L (ByteArray.mk #[41]) r).bind fun _ r'=>.ok e r')
  else if sOf 2 ts then (sNum L ts).bind fun n r=>.ok ⟨1,n,ByteArray.mk #[],[]⟩ r
  else (zec L ts).bind fun s r=>.ok ⟨2,0,s,[]⟩ r
def sMul:Nat→Nat→z4n→List Tok→Rs z4n
 | 0,_,_,_=>.out
 | f+1,d,e,ts=>match z9z mulS ts with
  | none=>.ok e ts
  | some j=>(zf3 f d ts.tail).bind fun k r=>sMul f d ⟨6+(j:Int),0,ByteArray.mk #[],[e,k]⟩ r
def zoo:Nat→Nat→List Tok→Rs z4n
 | 0,_,_=>.out
 | f+1,d,ts=>(zf3 f d ts).bind fun e r=>sMul f d e r
def sAdd:Nat→Nat→z4n→List Tok→Rs z4n
 | 0,_,_,_=>.out
 | f+1,d,e,ts=>match z9z addS ts with
  | none=>.ok e ts
  | some j=>(zoo f d ts.tail).bind fun k r=>sAdd f d ⟨4+(j:Int),0,ByteArray.mk #[],[e,k]⟩ r
def zon:Nat→Nat→List Tok→Rs z4n
 | 0,_,_=>.out
 | f+1,d,ts=>(zoo f d ts).bind fun e r=>sAdd f d e r
end
end
def PS (L:Int) (ts:List Tok) (d i:Int):z00:=⟨ts.map tokT,L,0,0,d,i⟩
def EP (a:z00) (c p:Int):Prop:=a.f_e=c∧a.f_at=p
section
variable {ρ ρ' β γ:Type} {L d i d' i':Int} {π:ρ→z00} {mk:β→z00→ρ} {π':ρ'→z00} {mk':γ→z00→ρ'} {H:Nat}
def GP (L d i:Int) (π:ρ→z00) (mk:β→z00→ρ):Rs β→ρ→Prop
 | .ok v ts,r=>r=mk v (PS L ts d i)
 | .er c p,r=>c≠0∧EP (π r) c p
 | .out,_=>False
def TP (L d i:Int) (π:ρ→z00) (mk:β→z00→ρ) (H:Nat) (x:Nat→Option ρ) (o:Rs β):Prop:=o≠.out→∃ r,GP L d i π mk o r∧∀ n,Sn n H (x n) r
theorem TP.bind {x:Nat→Option ρ} {o:Rs β} {k:Nat→ρ→Option ρ'} {k':β→List Tok→Rs γ} (h:TP L d i π mk H x o) (hok:∀ v ts,o=.ok v ts→TP L d' i' π' mk' H (fun n=>k n (mk v (PS L ts d i))) (k' v ts))
  (her:∀ r c p,c≠0→EP (π r) c p→∃ r',EP (π' r') c p∧∀ n,Sn n H (k n r) r'):TP L d' i' π' mk' H (fun n=>x n>>=k n) (o.bind k'):=by
 intro hne
 cases o with
 | ok v ts =>
  obtain ⟨r,hr,hs⟩:=h (by simp)
  have hr:r=mk v (PS L ts d i):=hr
  subst hr
  obtain ⟨r',g',s'⟩:=hok v ts rfl hne
  exact ⟨r',g',fun n=>Sn.bind (f:=k n) (hs n) (s' n)⟩
 | er c p =>
  obtain ⟨r,⟨hc,he⟩,hs⟩:=h (by simp)
  obtain ⟨r',he',s'⟩:=her r c p hc he
  exact ⟨r',⟨hc,he'⟩,fun n=>Sn.bind (f:=k n) (hs n) (s' n)⟩
 | out=>exact absurd rfl hne
theorem TP.pure {x:Nat→Option ρ} {v:β} {ts:List Tok} (e:∀ n,x n=some (mk v (PS L ts d i))):TP L d i π mk H x (.ok v ts):=fun _=>⟨_,rfl,fun n=>.inl (e n)⟩
theorem TP.err {x:Nat→Option ρ} {r:ρ} {c p:Int} (e:∀ n,x n=some r) (hc:c≠0) (hp:EP (π r) c p):TP L d i π mk H x (.er c p):=fun _=>⟨r,⟨hc,hp⟩,fun n=>.inl (e n)⟩
theorem TP.up {F x:Nat→Option ρ} {o:Rs β} (h0:F 0=none) (h1:∀ n,F (n+1)=x n) (h:TP L d i π mk H x o):TP L d i π mk (H+1) F o:=by
 intro hne
 obtain ⟨r,g,s⟩:=h hne
 refine ⟨r,g,fun n=>?_⟩
 cases n with
 | zero=>exact .inr ⟨h0,by omega⟩
 | succ n=>rw [h1];exact (s n).up
theorem TP.mono {x:Nat→Option ρ} {o:Rs β} {H':Nat} (h:TP L d i π mk H x o) (hh:H≤H'):TP L d i π mk H' x o:=fun hne=>by
 obtain ⟨r,g,s⟩:=h hne
 exact ⟨r,g,fun n=>(s n).mono hh⟩
theorem TP.eq {x y:Nat→Option ρ} {o:Rs β} (h:TP L d i π mk H y o) (e:∀ n,x n=y n):TP L d i π mk H x o:=by
 rw [show x=y from funext e];exact h
theorem TP.unf {x:Nat→Option ρ} {o:Rs β} (h:TP L d i π mk H x o):TP L d i π mk 0 (fun _=>unf x) o:=fun hne=>by
 obtain ⟨r,g,s⟩:=h hne
 exact ⟨r,g,fun n=>.inl (Sn.unf s)⟩
end
theorem zla {ρ:Type} {P:ρ→Prop} {x:Nat→Option ρ} {r:ρ} {H:Nat} (e:∀ n,Sn n H (x n) r) (p:P r):∃ r,P r∧∀ n,Sn n H (x n) r:=⟨r,p,e⟩
theorem zzs (t:Tok):(tokT t).Text.data.toList=t.text:=by simp [tokT]
theorem idx0 {α:Type} (x:α) (l:List α):idx (x::l) 0=some x:=rfl
theorem z08a {α:Type} (x:α) (l:List α) (h:l.length≤4611686018427387904):lsub (x::l) 1 ((x::l).length:Int)=some l:=by
 unfold lsub
 rw [if_pos ⟨by omega,by simp only [List.length_cons];omega,by omega⟩]
 simp
section
variable {L d i:Int} {ts:List Tok}
theorem zj9 (w:ByteArray):z3j (PS L ts d i) w=some (z6i w ts):=by
 cases ts with
 | nil=>rfl
 | cons t r =>
  unfold z3j PS z6i
  have h1:decide (((tokT t::r.map tokT).length:Int) > 0)=true:=by simp
  have e:(tokT t).Kind=t.kind:=rfl
  simp only [beq_self_eq_true,if_true,List.map_cons,h1,idx0,Option.bind_eq_bind,Option.bind_some,Go.ByteArray.toList_eq,zzs,e]
  cases decide (t.kind≥3) <;> simp
theorem of_P (k:Int):z6o (PS L ts d i) k=some (sOf k ts):=by
 cases ts with
 | nil=>rfl
 | cons t r =>
  unfold z6o PS sOf
  have h1:decide (((tokT t::r.map tokT).length:Int) > 0)=true:=by simp
  simp only [beq_self_eq_true,if_true,List.map_cons,h1,idx0,Option.bind_eq_bind,Option.bind_some]
  rfl
theorem zo3 (c:Int):z2q (PS L ts d i) c=some ⟨ts.map tokT,L,c,sAt L ts,d,i⟩:=by
 cases ts with
 | nil=>rfl
 | cons t r =>
  unfold z2q PS sAt
  have h1:decide (((tokT t::r.map tokT).length:Int) > 0)=true:=by simp
  simp only [z01v,Bool.false_eq_true,if_false,if_true,List.map_cons,h1,idx0,Option.bind_eq_bind,Option.bind_some]
  rfl
theorem zb5 (hl:ts.length≤2000) (w:ByteArray):z0r (PS L ts d i) w=some (if z6i w ts then (PS L ts.tail d i,true) else (PS L ts d i,false)):=by
 unfold z0r
 rw [zj9]
 cases hs:z6i w ts with
 | false=>rfl
 | true =>
  cases ts with
  | nil=>cases hs
  | cons t r =>
   simp only [Option.bind_eq_bind,Option.bind_some,Bool.not_true,Bool.false_eq_true,if_false,if_true,List.tail_cons]
   have:lsub (PS L (t::r) d i).f_l 1 ((PS L (t::r) d i).f_l.length:Int)=some (r.map tokT):=z08a (tokT t) (r.map tokT) (by simp at hl ⊢;omega)
   rw [this];rfl
theorem zv5 (hl:ts.length≤2000) (w:ByteArray):z08 (PS L ts d i) w=some (if z6i w ts then PS L ts.tail d i else ⟨ts.map tokT,L,5,sAt L ts,d,i⟩):=by
 unfold z08
 rw [zb5 hl]
 cases hs:z6i w ts with
 | false=>simp [zo3]
 | true=>simp
abbrev mkM:Unit→z00→z00:=fun _ a=>a
abbrev mkV {α:Type}:α→z00→z00 × α:=fun v a=>(a,v)
theorem z98 {H:Nat} (hl:ts.length≤2000) (w:ByteArray):TP L d i id mkM H (fun _=>z08 (PS L ts d i) w) (zan L w ts):=by
 unfold zan
 cases hs:z6i w ts with
 | true=>exact TP.pure (fun n=>by rw [zv5 hl,hs];rfl)
 | false=>exact TP.err (r:=⟨ts.map tokT,L,5,sAt L ts,d,i⟩) (fun n=>by rw [zv5 hl,hs];rfl) (by decide) ⟨rfl,rfl⟩
theorem zp8 (hl:ts.length≤2000) (k:Int):z6g (PS L ts d i) k=match ts with
  | []=>some (⟨[],L,5,L,d,i⟩,⟨0,ByteArray.mk #[],0,0⟩)
  | t::r=>if t.kind==k then some (PS L r d i,tokT t) else some (⟨(t::r).map tokT,L,5,(t.at_:Int),d,i⟩,⟨0,ByteArray.mk #[],0,0⟩):=by
 unfold z6g
 rw [of_P]
 cases ts with
 | nil=>rfl
 | cons t r =>
  simp only [sOf]
  cases hk:(t.kind==k) with
  | false=>simp only [Option.bind_eq_bind,Option.bind_some,Bool.not_false,if_true,zo3,Bool.false_eq_true,if_false];rfl
  | true =>
   have:lsub (PS L (t::r) d i).f_l 1 ((PS L (t::r) d i).f_l.length:Int)=some (r.map tokT):=z08a (tokT t) (r.map tokT) (by simp at hl ⊢;omega)
   have h0:idx (PS L (t::r) d i).f_l 0=some (tokT t):=rfl
   simp only [Option.bind_eq_bind,Option.bind_some,Bool.not_true,Bool.false_eq_true,if_false,if_true,this,h0]
   rfl
theorem zdt {H:Nat} (hl:ts.length≤2000):TP L d i Prod.fst mkV H (fun _=>z0p (PS L ts d i)) (zec L ts):=by
 unfold z0p
 cases ts with
 | nil=>exact TP.err (r:=(⟨[],L,5,L,d,i⟩,ByteArray.mk #[])) (fun n=>by rw [zp8 hl];rfl) (by decide) ⟨rfl,rfl⟩
 | cons t r =>
  simp only [zec]
  cases hk:(t.kind==1) with
  | true=>exact TP.pure (fun n=>by rw [zp8 hl];simp only [hk,if_true];rfl)
  | false=>exact TP.err (r:=(⟨(t::r).map tokT,L,5,(t.at_:Int),d,i⟩,ByteArray.mk #[])) (fun n=>by rw [zp8 hl];simp only [hk,Bool.false_eq_true,if_false];rfl) (by decide) ⟨rfl,rfl⟩
theorem z01w {H:Nat} (hl:ts.length≤2000):TP L d i Prod.fst mkV H (fun _=>z2h (PS L ts d i)) (sNum L ts):=by
 unfold z2h
 cases ts with
 | nil=>exact TP.err (r:=(⟨[],L,5,L,d,i⟩,0)) (fun n=>by rw [zp8 hl];rfl) (by decide) ⟨rfl,rfl⟩
 | cons t r =>
  simp only [sNum]
  cases hk:(t.kind==2) with
  | true=>exact TP.pure (fun n=>by rw [zp8 hl];simp only [hk,if_true];rfl)
  | false=>exact TP.err (r:=(⟨(t::r).map tokT,L,5,(t.at_:Int),d,i⟩,0)) (fun n=>by rw [zp8 hl];simp only [hk,Bool.false_eq_true,if_false];rfl) (by decide) ⟨rfl,rfl⟩
def tp6 (a:z00):List z0n × Int × Int × Int × Int × Int:=(a.f_l,a.f_end,a.f_e,a.f_at,a.f_deep,a.f_in)
theorem z01x (hl:ts.length≤2000) (ws:List ByteArray) (hw:ws.length≤1000):∀ (m:List ByteArray) (k:Nat),ws.drop k=m→k≤ws.length →
  iter (z0u ws) ((k:Int),tp6 (PS L ts d i))=some (match z9z m ts with|some j=>.inl (PS L ts.tail d i,((k+j:Nat):Int))|none=>.inr (tp6 (PS L ts d i))):=by
 intro m
 induction m with
 | nil =>
  intro k hd hk
  have:k=ws.length:=by have:=List.drop_eq_nil_iff.1 hd;omega
  subst this
  refine z4l ?_
  unfold z0u
  rw [if_neg (by simp)]
  rfl
 | cons w m ih =>
  intro k hd hk
  have hlt:k<ws.length:=by
   refine Nat.lt_of_not_le fun h=>?_
   rw [List.drop_of_length_le h] at hd;cases hd
  rw [List.drop_eq_getElem_cons hlt] at hd
  injection hd with h1 h2
  have hi:idx ws (k:Int)=some w:=by rw [zb4 hlt,h1]
  have hs:z0r (z00.mk (tp6 (PS L ts d i)).1 (tp6 (PS L ts d i)).2.1 (tp6 (PS L ts d i)).2.2.1 (tp6 (PS L ts d i)).2.2.2.1 (tp6 (PS L ts d i)).2.2.2.2.1 (tp6 (PS L ts d i)).2.2.2.2.2) w=_:=zb5 hl w
  have hbody:z0u ws ((k:Int),tp6 (PS L ts d i))=some (if z6i w ts then .inr (.inl (PS L ts.tail d i,(k:Int))) else .inl (((k+1:Nat):Int),tp6 (PS L ts d i))):=by
   unfold z0u
   rw [if_pos (by simpa using hlt)]
   simp only [hi,Option.bind_eq_bind,Option.bind_some,hs,z08b (i:=k) (by omega)]
   cases z6i w ts <;> rfl
  simp only [z9z]
  cases hsw:z6i w ts with
  | true =>
   rw [hsw,if_pos rfl] at hbody
   rw [z4l hbody];simp
  | false =>
   rw [hsw,if_neg (by decide)] at hbody
   rw [z94 hbody,ih (k+1) h2 hlt]
   cases z9z m ts with
   | none=>simp
   | some j=>simp;omega
theorem zq5 (hl:ts.length≤2000) (ws:List ByteArray) (hw:ws.length≤1000):z25 (PS L ts d i) ws=some (match z9z ws ts with|some j=>(PS L ts.tail d i,(j:Int))|none=>(PS L ts d i,-1)):=by
 have h:=z01x (L:=L) (d:=d) (i:=i) hl ws hw ws 0 rfl (by omega)
 unfold z25 z2m
 have e:(((0:Nat):Int),tp6 (PS L ts d i))=(0,(PS L ts d i).f_l,(PS L ts d i).f_end,(PS L ts d i).f_e,(PS L ts d i).f_at,(PS L ts d i).f_deep,(PS L ts d i).f_in):=rfl
 rw [← e,h]
 cases z9z ws ts with
 | none=>rfl
 | some j=>simp
end
section
variable {a:z00} (h:a.f_e≠0)
include h
theorem e0:(a.f_e==0)=false:=by simpa using h
theorem e1:(a.f_e != 0)=true:=by simpa using h
theorem zzt (w:ByteArray):z3j a w=some false:=by unfold z3j;rw [if_neg (by simp [h])]
theorem of_e (k:Int):z6o a k=some false:=by unfold z6o;rw [if_neg (by simp [h])]
theorem zp9 (c:Int):z2q a c=some a:=by unfold z2q;rw [if_pos (by simp [h])]
theorem zia (w:ByteArray):z0r a w=some (a,false):=by unfold z0r;rw [zzt h];rfl
theorem zf4 (w:ByteArray):z08 a w=some a:=by
 unfold z08;rw [zia h]
 simp only [Option.bind_eq_bind,Option.bind_some,Bool.not_false,if_true,zp9 h]
theorem z03f (k:Int):z6g a k=some (a,⟨0,ByteArray.mk #[],0,0⟩):=by
 unfold z6g;rw [of_e h]
 simp only [Option.bind_eq_bind,Option.bind_some,Bool.not_false,if_true,zp9 h]
theorem zpa:z0p a=some (a,ByteArray.mk #[]):=by unfold z0p;rw [z03f h];rfl
theorem z08c:z2h a=some (a,0):=by unfold z2h;rw [z03f h];rfl
theorem zzu (ws:List ByteArray) (hw:ws.length≤1000):z25 a ws=some (a,-1):=by
 have it:∀ (m:List ByteArray) (k:Nat),ws.drop k=m→k≤ws.length→iter (z0u ws) ((k:Int),tp6 a)=some (.inr (tp6 a)):=by
  intro m
  induction m with
  | nil =>
   intro k hd hk
   have:k=ws.length:=by have:=List.drop_eq_nil_iff.1 hd;omega
   subst this
   refine z4l ?_
   unfold z0u
   rw [if_neg (by simp)]
   try rfl
  | cons w m ih =>
   intro k hd hk
   have hlt:k<ws.length:=by
    refine Nat.lt_of_not_le fun h=>?_
    rw [List.drop_of_length_le h] at hd;cases hd
   rw [List.drop_eq_getElem_cons hlt] at hd
   injection hd with h1 h2
   have hi:idx ws (k:Int)=some w:=by rw [zb4 hlt,h1]
   have hs:z0r (z00.mk (tp6 a).1 (tp6 a).2.1 (tp6 a).2.2.1 (tp6 a).2.2.2.1 (tp6 a).2.2.2.2.1 (tp6 a).2.2.2.2.2) w=_:=zia h w
   rw [z94 (y:=(((k+1:Nat):Int),tp6 a))]
   ·exact ih (k+1) h2 hlt
   ·unfold z0u
    rw [if_pos (by simpa using hlt)]
    simp only [hi,Option.bind_eq_bind,Option.bind_some,hs,z08b (i:=k) (by omega)]
    rfl
 unfold z25 z2m
 have e:(((0:Nat):Int),tp6 a)=(0,a.f_l,a.f_end,a.f_e,a.f_at,a.f_deep,a.f_in):=rfl
 rw [← e,it ws 0 rfl (by omega)]
 try rfl
end
theorem bind_ok {α β:Type} {o:Rs α} {k:α→List Tok→Rs β} {v:β} {r:List Tok} (h:o.bind k=.ok v r):∃ w s,o=.ok w s∧k w s=.ok v r:=by
 cases o with
 | ok w s=>exact ⟨w,s,rfl,h⟩
 | er c p=>cases h
 | out=>cases h
section
variable {L:Int}
theorem z6q {w:ByteArray} {ts:List Tok} (h:z6i w ts=true):ts.tail.length<ts.length:=by
 cases ts with
 | nil=>cases h
 | cons t r=>simp
theorem zbh {ts:List Tok}:∀ {ws:List ByteArray} {j:Nat},z9z ws ts=some j→ts.tail.length<ts.length∧j<ws.length
 | [],j,h=>by cases h
 | w::l,j,h=>by
  simp only [z9z] at h
  split at h
  ·rename_i hs;injection h with h;subst h;exact ⟨z6q hs,by simp⟩
  ·cases hw:z9z l ts with
   | none=>rw [hw] at h;cases h
   | some k =>
    rw [hw] at h;injection h with h
    have:=zbh hw
    exact ⟨this.1,by rw [← h];simp;omega⟩
theorem z33 {w:ByteArray} {ts r:List Tok} {v:Unit} (h:zan L w ts=.ok v r):r <:+ ts∧r.length<ts.length:=by
 unfold zan at h
 split at h
 ·rename_i hs;injection h with _ h;subst h;exact ⟨List.tail_suffix ts,z6q hs⟩
 ·cases h
theorem z4m {ts r:List Tok} {v:ByteArray} (h:zec L ts=.ok v r):r <:+ ts∧r.length<ts.length:=by
 cases ts with
 | nil=>cases h
 | cons t s =>
  simp only [zec] at h
  split at h
  ·injection h with _ h;subst h;exact ⟨List.suffix_cons t s,by simp⟩
  ·cases h
theorem zib {ts r:List Tok} {v:Int} (h:sNum L ts=.ok v r):r <:+ ts∧r.length<ts.length:=by
 cases ts with
 | nil=>cases h
 | cons t s =>
  simp only [sNum] at h
  split at h
  ·injection h with _ h;subst h;exact ⟨List.suffix_cons t s,by simp⟩
  ·cases h
structure Suf (L:Int) (f:Nat):Prop where
 fac:∀ d ts v r,zf3 L f d ts=.ok v r→r <:+ ts
 mul:∀ d e ts v r,sMul L f d e ts=.ok v r→r <:+ ts
 term:∀ d ts v r,zoo L f d ts=.ok v r→r <:+ ts
 add:∀ d e ts v r,sAdd L f d e ts=.ok v r→r <:+ ts
 exp:∀ d ts v r,zon L f d ts=.ok v r→r <:+ ts
theorem suf (L:Int):∀ f,Suf L f:=by
 intro f
 induction f with
 | zero=>exact ⟨fun d ts v r h=>by simp [zf3] at h,fun d e ts v r h=>by simp [sMul] at h,fun d ts v r h=>by simp [zoo] at h,fun d e ts v r h=>by simp [sAdd] at h,fun d ts v r h=>by simp [zon] at h⟩
 | succ f ih =>
  refine ⟨fun d ts v r h=>?_,fun d e ts v r h=>?_,fun d ts v r h=>?_,fun d e ts v r h=>?_,fun d ts v r h=>?_⟩
  ·simp only [zf3] at h
   split at h
   ·split at h
    ·cases h
    ·obtain ⟨w,s,h1,h2⟩:=bind_ok h
     injection h2 with _ h2;subst h2
     exact (ih.fac _ _ _ _ h1).trans (List.tail_suffix ts)
   ·split at h
    ·split at h
     ·cases h
     ·obtain ⟨w,s,h1,h2⟩:=bind_ok h
      obtain ⟨w',s',h3,h4⟩:=bind_ok h2
      injection h4 with _ h4;subst h4
      exact ((z33 h3).1.trans (ih.exp _ _ _ _ h1)).trans (List.tail_suffix ts)
    ·split at h
     ·obtain ⟨w,s,h1,h2⟩:=bind_ok h
      injection h2 with _ h2;subst h2
      exact (zib h1).1
     ·obtain ⟨w,s,h1,h2⟩:=bind_ok h
      injection h2 with _ h2;subst h2
      exact (z4m h1).1
  ·simp only [sMul] at h
   split at h
   ·injection h with _ h;subst h;exact List.suffix_refl _
   ·obtain ⟨w,s,h1,h2⟩:=bind_ok h
    exact ((ih.mul _ _ _ _ _ h2).trans (ih.fac _ _ _ _ h1)).trans (List.tail_suffix ts)
  ·simp only [zoo] at h
   obtain ⟨w,s,h1,h2⟩:=bind_ok h
   exact (ih.mul _ _ _ _ _ h2).trans (ih.fac _ _ _ _ h1)
  ·simp only [sAdd] at h
   split at h
   ·injection h with _ h;subst h;exact List.suffix_refl _
   ·obtain ⟨w,s,h1,h2⟩:=bind_ok h
    exact ((ih.add _ _ _ _ _ h2).trans (ih.term _ _ _ _ h1)).trans (List.tail_suffix ts)
  ·simp only [zon] at h
   obtain ⟨w,s,h1,h2⟩:=bind_ok h
   exact (ih.add _ _ _ _ _ h2).trans (ih.term _ _ _ _ h1)
end
def zA:z06:=⟨0,0,ByteArray.mk #[],[]⟩
def vA:z06:=⟨2,0,ByteArray.mk #[],[]⟩
def tpE (a:z00) (e:z06):List z0n × Int × Int × Int × Int × Int × Int × Int × ByteArray × List z06:=(a.f_l,a.f_end,a.f_e,a.f_at,a.f_deep,a.f_in,e.Kind,e.Num,e.Name,e.Kids)
noncomputable def MB (n:Nat):=z2r (z1k n) (z0i n) (z1f n) (z0g n) (z0s n) (z1g n) (z1l n) mulS 6
noncomputable def AB (n:Nat):=z2z (z1k n) (z0i n) (z1f n) (z0g n) (z0s n) (z1g n) (z1l n) addS 4
abbrev E10:=List z0n × Int × Int × Int × Int × Int × Int × Int × ByteArray × List z06
def finE (j1:E10):Option (z00 × z06):=some ((z00.mk j1.1 j1.2.1 j1.2.2.1 j1.2.2.2.1 j1.2.2.2.2.1 j1.2.2.2.2.2.1),(z06.mk j1.2.2.2.2.2.2.1 j1.2.2.2.2.2.2.2.1 j1.2.2.2.2.2.2.2.2.1 j1.2.2.2.2.2.2.2.2.2))
noncomputable def MF (n:Nat) (a:z00) (e:z06):Option (z00 × z06):=iter (MB n) (tpE a e)>>=Sum.elim (fun _=>none) finE
noncomputable def AF (n:Nat) (a:z00) (e:z06):Option (z00 × z06):=iter (AB n) (tpE a e)>>=Sum.elim (fun _=>none) finE
section
variable {a:z00} (h:a.f_e≠0)
include h
theorem MF_e (n:Nat) (e:z06):MF n a e=some (a,e):=by
 obtain ⟨k,m,s,l⟩:=e
 unfold MF
 rw [z4l (r:=.inr (tpE a ⟨k,m,s,l⟩)) (by
  unfold MB z2r
  rw [if_neg (by simpa [tpE] using h)])]
 rfl
theorem AF_e (n:Nat) (e:z06):AF n a e=some (a,e):=by
 obtain ⟨k,m,s,l⟩:=e
 unfold AF
 rw [z4l (r:=.inr (tpE a ⟨k,m,s,l⟩)) (by
  unfold AB z2z
  rw [if_neg (by simpa [tpE] using h)])]
 rfl
theorem z01y (n:Nat):Sn n 1 (z0s n a) (a,vA):=by
 cases n with
 | zero=>exact .inr ⟨rfl,by omega⟩
 | succ n =>
  refine .inl ?_
  simp only [z0s,zzt h,of_e h,zpa h,Option.bind_eq_bind,Option.bind_some,Bool.false_eq_true,if_false]
  rfl
theorem z01z (n:Nat):Sn n 2 (z0g n a mulS 6) (a,vA):=by
 cases n with
 | zero=>exact .inr ⟨rfl,by omega⟩
 | succ n =>
  simp only [z0g]
  exact (Sn.bind (f:=fun v1=>MF n v1.1 v1.2) (z01y h n) (.inl (MF_e h n vA))).up
theorem z08d (n:Nat):Sn n 3 (z1f n a) (a,vA):=by
 cases n with
 | zero=>exact .inr ⟨rfl,by omega⟩
 | succ n =>
  simp only [z1f]
  exact (Sn.bind (f:=fun v1=>some (v1.1,v1.2)) (z01z h n) (.inl rfl)).up
theorem z020 (n:Nat):Sn n 4 (z0i n a addS 4) (a,vA):=by
 cases n with
 | zero=>exact .inr ⟨rfl,by omega⟩
 | succ n =>
  simp only [z0i]
  exact (Sn.bind (f:=fun v1=>AF n v1.1 v1.2) (z08d h n) (.inl (AF_e h n vA))).up
theorem z05n (n:Nat):Sn n 5 (z1k n a) (a,vA):=by
 cases n with
 | zero=>exact .inr ⟨rfl,by omega⟩
 | succ n =>
  simp only [z1k]
  exact (Sn.bind (f:=fun v1=>some (v1.1,v1.2)) (z020 h n) (.inl rfl)).up
theorem z08e:z5y a=some (a,vA):=Sn.unf fun n=>z05n h n
end
section
variable {L i:Int} {ts:List Tok} {d:Int}
theorem z08f (hl:ts.length≤2000) (n:Nat) (e:z06):MF n (PS L ts d i) e=match z9z mulS ts with
  | none=>some (PS L ts d i,e)
  | some j=>z0s n (PS L ts.tail d i)>>=fun v=>MF n v.1 ⟨6+(j:Int),0,ByteArray.mk #[],[e,v.2]⟩:=by
 obtain ⟨ek,em,es,el⟩:=e
 have hw:=zq5 (L:=L) (d:=d) (i:=i) hl mulS (by decide)
 have hb:MB n (tpE (PS L ts d i) ⟨ek,em,es,el⟩)=match z9z mulS ts with
   | none=>some (.inr (.inr (tpE (PS L ts d i) ⟨ek,em,es,el⟩)))
   | some j=>z0s n (PS L ts.tail d i)>>=fun v=>some (.inl (tpE v.1 ⟨6+(j:Int),0,ByteArray.mk #[],[⟨ek,em,es,el⟩,v.2]⟩)):=by
  unfold MB z2r
  rw [if_pos (by rfl)]
  show (z25 (PS L ts d i) mulS).bind _=_
  rw [hw]
  cases hs:z9z mulS ts with
  | none=>simp only [Option.bind_some];rfl
  | some j =>
   have hj:=(zbh hs).2
   have hj:j<3:=hj
   have h1:decide (((j:Nat):Int)<0)=false:=by simp
   have h2:IntKind.i64.wrap (6+(j:Int))=6+(j:Int):=w64 (by omega) (by omega)
   simp only [Option.bind_some,h1,Bool.false_eq_true,if_false,h2]
   rfl
 unfold MF
 rw [zce,hb]
 cases hs:z9z mulS ts with
 | none=>rfl
 | some j =>
  simp only [Option.bind_eq_bind,Option.bind_assoc,Option.bind_some]
theorem z08g (hl:ts.length≤2000) (n:Nat) (e:z06):AF n (PS L ts d i) e=match z9z addS ts with
  | none=>some (PS L ts d i,e)
  | some j=>z1f n (PS L ts.tail d i)>>=fun v=>AF n v.1 ⟨4+(j:Int),0,ByteArray.mk #[],[e,v.2]⟩:=by
 obtain ⟨ek,em,es,el⟩:=e
 have hw:=zq5 (L:=L) (d:=d) (i:=i) hl addS (by decide)
 have hb:AB n (tpE (PS L ts d i) ⟨ek,em,es,el⟩)=match z9z addS ts with
   | none=>some (.inr (.inr (tpE (PS L ts d i) ⟨ek,em,es,el⟩)))
   | some j=>z1f n (PS L ts.tail d i)>>=fun v=>some (.inl (tpE v.1 ⟨4+(j:Int),0,ByteArray.mk #[],[⟨ek,em,es,el⟩,v.2]⟩)):=by
  unfold AB z2z
  rw [if_pos (by rfl)]
  show (z25 (PS L ts d i) addS).bind _=_
  rw [hw]
  cases hs:z9z addS ts with
  | none=>simp only [Option.bind_some];rfl
  | some j =>
   have hj:=(zbh hs).2
   have hj:j<2:=hj
   have h1:decide (((j:Nat):Int)<0)=false:=by simp
   have h2:IntKind.i64.wrap (4+(j:Int))=4+(j:Int):=w64 (by omega) (by omega)
   simp only [Option.bind_some,h1,Bool.false_eq_true,if_false,h2]
   rfl
 unfold AF
 rw [zce,hb]
 cases hs:z9z addS ts with
 | none=>rfl
 | some j =>
  simp only [Option.bind_eq_bind,Option.bind_assoc,Option.bind_some]
end
abbrev mkE:z4n→z00→z00 × z06:=fun v a=>(a,cE v)
structure PX (L i:Int) (f:Nat):Prop where
 fac:∀ (d:Nat) ts,d≤24→ts.length≤2000→TP L d i Prod.fst mkE (2*f) (fun n=>z0s n (PS L ts d i)) (zf3 L f d ts)
 mul:∀ (d:Nat) e ts,d≤24→ts.length≤2000→TP L d i Prod.fst mkE (2*f) (fun n=>MF n (PS L ts d i) (cE e)) (sMul L f d e ts)
 term:∀ (d:Nat) ts,d≤24→ts.length≤2000→TP L d i Prod.fst mkE (2*f) (fun n=>z1f n (PS L ts d i)) (zoo L f d ts)
 add:∀ (d:Nat) e ts,d≤24→ts.length≤2000→TP L d i Prod.fst mkE (2*f) (fun n=>AF n (PS L ts d i) (cE e)) (sAdd L f d e ts)
 exp:∀ (d:Nat) ts,d≤24→ts.length≤2000→TP L d i Prod.fst mkE (2*f) (fun n=>z1k n (PS L ts d i)) (zon L f d ts)
theorem zic {ρ β:Type} {L d i:Int} {π:ρ→z00} {mk:β→z00→ρ} {H:Nat} {x:Nat→Option ρ}:TP L d i π mk H x (.out:Rs β):=fun h=>absurd rfl h
theorem zn3 {α β:Type} (x:Option (α × β)):(x.bind fun v=>some (v.1,v.2))=x:=by cases x <;> rfl
theorem z5k {a:z00} {c p:Int} (hc:c≠0) (h:EP a c p):a.f_e≠0:=by rw [h.1];exact hc
theorem zq6 {L i:Int} {ts:List Tok} {d:Nat} (hd:d≤24):z7q (PS L ts d i)=some (if d=24 then (⟨ts.map tokT,L,6,sAt L ts,d,i⟩,false) else (PS L ts ((d+1:Nat):Int) i,true)):=by
 unfold z7q
 by_cases h:d=24
 ·subst h
  rw [if_pos (by rfl),zo3];rfl
 ·have:((PS L ts (d:Int) i).f_deep==24)=false:=by
   show ((d:Int)==24)=false
   simp;omega
  rw [this,if_neg (by decide),if_neg h]
  have hw:IntKind.i64.wrap ((d:Int)+1)=((d+1:Nat):Int):=by rw [w64 (by omega) (by omega)];omega
  show some ((⟨ts.map tokT,L,0,0,IntKind.i64.wrap ((d:Int)+1),i⟩:z00),true)=_
  rw [hw];rfl
theorem px (L i:Int):∀ f,PX L i f:=by
 intro f
 induction f with
 | zero=>exact ⟨fun d ts _ _=>by simp only [zf3];exact zic,fun d e ts _ _=>by simp only [sMul];exact zic,fun d ts _ _=>by simp only [zoo];exact zic,fun d e ts _ _=>by simp only [sAdd];exact zic,fun d ts _ _=>by simp only [zon];exact zic⟩
 | succ f ih =>
  have sf:=suf L f
  refine ⟨fun d ts hd hl=>?_,fun d e ts hd hl=>?_,fun d ts hd hl=>?_,fun d e ts hd hl=>?_,fun d ts hd hl=>?_⟩
  ·-- a factor
   simp only [zf3]
   cases h1:z6i (ByteArray.mk #[45]) ts with
   | true =>
    have hlt:ts.tail.length≤2000:=by have:=z6q h1;omega
    simp only [if_true]
    refine TP.up (H:=2*f+1) (x:=fun n=>z1g n (PS L ts d i)) rfl (fun n=>by simp only [z0s,zj9,h1,Option.bind_eq_bind,Option.bind_some,if_true,zn3]) ?_
    by_cases h24:d=24
    ·rw [if_pos h24]
     refine TP.up (H:=2*f) (x:=fun _=>some (⟨ts.map tokT,L,6,sAt L ts,d,i⟩,zA)) rfl (fun n=>by simp only [z1g,zq6 hd,if_pos h24,Option.bind_eq_bind,Option.bind_some];rfl) ?_
     exact TP.err (fun n=>rfl) (by decide) ⟨rfl,rfl⟩
    ·rw [if_neg h24]
     refine TP.up (H:=2*f) (x:=fun n=>z0s n (PS L ts.tail ((d+1:Nat):Int) i)>>=fun v3=>some ((z00.mk v3.1.f_l v3.1.f_end v3.1.f_e v3.1.f_at (IntKind.i64.wrap (v3.1.f_deep - 1)) v3.1.f_in),(z06.mk 3 0 (ByteArray.mk #[]) [v3.2]))) rfl (fun n=>by
      simp only [z1g,zq6 hd,if_neg h24,Option.bind_eq_bind,Option.bind_some,Bool.not_true,Bool.false_eq_true,if_false,zv5 hl,h1,if_true]) ?_
     refine TP.bind (ih.fac (d+1) ts.tail (by omega) hlt) (fun v r hv=>TP.pure (fun n=>?_)) (fun r c p hc he=>zla (fun n=>.inl rfl) ⟨he.1,he.2⟩)
     have hw:IntKind.i64.wrap (((d+1:Nat):Int) - 1)=(d:Int):=by rw [w64 (by omega) (by omega)];omega
     show some ((⟨r.map tokT,L,0,0,IntKind.i64.wrap (((d+1:Nat):Int) - 1),i⟩:z00),_)=_
     rw [hw]
     simp only [mkE,cE,cEs];rfl
   | false =>
    simp only [Bool.false_eq_true,if_false]
    cases h2:z6i (ByteArray.mk #[40]) ts with
    | true =>
     have hlt:ts.tail.length≤2000:=by have:=z6q h2;omega
     simp only [if_true]
     refine TP.up (H:=2*f+1) (x:=fun n=>z1l n (PS L ts d i)) rfl (fun n=>by simp only [z0s,zj9,h1,h2,Option.bind_eq_bind,Option.bind_some,if_true,Bool.false_eq_true,if_false,zn3]) ?_
     by_cases h24:d=24
     ·rw [if_pos h24]
      refine TP.up (H:=2*f) (x:=fun _=>some (⟨ts.map tokT,L,6,sAt L ts,d,i⟩,zA)) rfl (fun n=>by simp only [z1l,zq6 hd,if_pos h24,Option.bind_eq_bind,Option.bind_some];rfl) ?_
      exact TP.err (fun n=>rfl) (by decide) ⟨rfl,rfl⟩
     ·rw [if_neg h24]
      refine TP.up (H:=2*f) (x:=fun n=>z1k n (PS L ts.tail ((d+1:Nat):Int) i)>>=fun v3=>z08 v3.1 (ByteArray.mk #[41])>>=fun v4=>some ((z00.mk v4.f_l v4.f_end v4.f_e v4.f_at (IntKind.i64.wrap (v4.f_deep - 1)) v4.f_in),v3.2)) rfl (fun n=>by
       simp only [z1l,zq6 hd,if_neg h24,Option.bind_eq_bind,Option.bind_some,Bool.not_true,Bool.false_eq_true,if_false,zv5 hl,h2,if_true]) ?_
      refine TP.bind (ih.exp (d+1) ts.tail (by omega) hlt) (fun v r hv=>?_) (fun r c p hc he=>zla (r:=((⟨r.1.f_l,r.1.f_end,r.1.f_e,r.1.f_at,IntKind.i64.wrap (r.1.f_deep - 1),r.1.f_in⟩:z00),r.2)) (fun n=>.inl (by rw [zf4 (z5k hc he)];rfl)) ⟨he.1,he.2⟩)
      have hr:=(sf.exp _ _ _ _ hv).length_le
      refine TP.bind (π':=Prod.fst) (mk':=mkE) (k:=fun n v4=>some ((z00.mk v4.f_l v4.f_end v4.f_e v4.f_at (IntKind.i64.wrap (v4.f_deep - 1)) v4.f_in),cE v)) (z98 (L:=L) (d:=((d+1:Nat):Int)) (i:=i) (ts:=r) (H:=2*f) (by omega) (ByteArray.mk #[41])) (fun _ r' hv'=>TP.pure (fun n=>?_)) (fun r c p hc he=>zla (fun n=>.inl rfl) ⟨he.1,he.2⟩)
      have hw:IntKind.i64.wrap (((d+1:Nat):Int) - 1)=(d:Int):=by rw [w64 (by omega) (by omega)];omega
      show some ((⟨r'.map tokT,L,0,0,IntKind.i64.wrap (((d+1:Nat):Int) - 1),i⟩:z00),_)=_
      rw [hw];rfl
    | false =>
     simp only [Bool.false_eq_true,if_false]
     cases h3:sOf 2 ts with
     | true =>
      simp only [if_true]
      refine (TP.up (H:=2*f) (x:=fun n=>z2h (PS L ts d i)>>=fun v6=>some (v6.1,(z06.mk 1 v6.2 (ByteArray.mk #[]) []))) rfl (fun n=>by simp only [z0s,zj9,of_P,h1,h2,h3,Option.bind_eq_bind,Option.bind_some,if_true,Bool.false_eq_true,if_false]) ?_).mono (by omega)
      refine TP.bind (z01w hl) (fun v r hv=>TP.pure (fun n=>?_)) (fun r c p hc he=>zla (fun n=>.inl rfl) ⟨he.1,he.2⟩)
      simp only [mkE,cE,cEs]
     | false =>
      simp only [Bool.false_eq_true,if_false]
      refine (TP.up (H:=2*f) (x:=fun n=>z0p (PS L ts d i)>>=fun v7=>some (v7.1,(z06.mk 2 0 v7.2 []))) rfl (fun n=>by simp only [z0s,zj9,of_P,h1,h2,h3,Option.bind_eq_bind,Option.bind_some,Bool.false_eq_true,if_false]) ?_).mono (by omega)
      refine TP.bind (zdt hl) (fun v r hv=>TP.pure (fun n=>?_)) (fun r c p hc he=>zla (fun n=>.inl rfl) ⟨he.1,he.2⟩)
      simp only [mkE,cE,cEs]
  ·-- products
   simp only [sMul]
   cases hs:z9z mulS ts with
   | none=>exact TP.pure (fun n=>by rw [z08f hl,hs])
   | some j =>
    have hlt:=(zbh hs).1
    refine (TP.eq (y:=fun n=>z0s n (PS L ts.tail d i)>>=fun v=>MF n v.1 ⟨6+(j:Int),0,ByteArray.mk #[],[cE e,v.2]⟩) ?_ (fun n=>by rw [z08f hl,hs])).mono (show 2*f≤2*(f+1) by omega)
    refine TP.bind (ih.fac d ts.tail hd (by omega)) (fun v r hv=>?_) (fun r c p hc he=>zla (fun n=>.inl (MF_e (z5k hc he) n _)) ⟨he.1,he.2⟩)
    have hr:=(sf.fac _ _ _ _ hv).length_le
    have:=ih.mul d ⟨6+(j:Int),0,ByteArray.mk #[],[e,v]⟩ r hd (by omega)
    simp only [cE,cEs] at this
    exact this
  ·-- a term
   simp only [zoo]
   refine TP.up (H:=2*f+1) (x:=fun n=>z0g n (PS L ts d i) mulS 6) rfl (fun n=>by simp only [z1f,Option.bind_eq_bind,zn3];rfl) ?_
   refine TP.up (H:=2*f) (x:=fun n=>z0s n (PS L ts d i)>>=fun v1=>MF n v1.1 v1.2) rfl (fun n=>rfl) ?_
   refine TP.bind (ih.fac d ts hd hl) (fun v r hv=>?_) (fun r c p hc he=>zla (fun n=>.inl (MF_e (z5k hc he) n _)) ⟨he.1,he.2⟩)
   have hr:=(sf.fac _ _ _ _ hv).length_le
   exact ih.mul d v r hd (by omega)
  ·-- sums
   simp only [sAdd]
   cases hs:z9z addS ts with
   | none=>exact TP.pure (fun n=>by rw [z08g hl,hs])
   | some j =>
    have hlt:=(zbh hs).1
    refine (TP.eq (y:=fun n=>z1f n (PS L ts.tail d i)>>=fun v=>AF n v.1 ⟨4+(j:Int),0,ByteArray.mk #[],[cE e,v.2]⟩) ?_ (fun n=>by rw [z08g hl,hs])).mono (show 2*f≤2*(f+1) by omega)
    refine TP.bind (ih.term d ts.tail hd (by omega)) (fun v r hv=>?_) (fun r c p hc he=>zla (fun n=>.inl (AF_e (z5k hc he) n _)) ⟨he.1,he.2⟩)
    have hr:=(sf.term _ _ _ _ hv).length_le
    have:=ih.add d ⟨4+(j:Int),0,ByteArray.mk #[],[e,v]⟩ r hd (by omega)
    simp only [cE,cEs] at this
    exact this
  ·-- an expression
   simp only [zon]
   refine TP.up (H:=2*f+1) (x:=fun n=>z0i n (PS L ts d i) addS 4) rfl (fun n=>by simp only [z1k,Option.bind_eq_bind,zn3];rfl) ?_
   refine TP.up (H:=2*f) (x:=fun n=>z1f n (PS L ts d i)>>=fun v1=>AF n v1.1 v1.2) rfl (fun n=>rfl) ?_
   refine TP.bind (ih.term d ts hd hl) (fun v r hv=>?_) (fun r c p hc he=>zla (fun n=>.inl (AF_e (z5k hc he) n _)) ⟨he.1,he.2⟩)
   have hr:=(sf.term _ _ _ _ hv).length_le
   exact ih.add d v r hd (by omega)
theorem z1c {α β:Type} {o:Rs α} {k:α→List Tok→Rs β} (h:o.bind k=.out):o=.out∨∃ w s,o=.ok w s∧k w s=.out:=by
 cases o with
 | ok w s=>exact .inr ⟨w,s,rfl,h⟩
 | er c p=>cases h
 | out=>exact .inl rfl
theorem z6y {L:Int} {w:ByteArray} {ts:List Tok}:zan L w ts≠.out:=by unfold zan;split <;> simp
theorem zao {L:Int} {ts:List Tok}:zec L ts≠.out:=by
 cases ts with
 | nil=>simp [zec]
 | cons t r=>simp only [zec];split <;> simp
theorem zv6 {L:Int} {ts:List Tok}:sNum L ts≠.out:=by
 cases ts with
 | nil=>simp [sNum]
 | cons t r=>simp only [sNum];split <;> simp
structure Fu (L:Int) (f:Nat):Prop where
 fac:∀ d ts,4*ts.length+1≤f→zf3 L f d ts≠.out
 mul:∀ d e ts,4*ts.length+1≤f→sMul L f d e ts≠.out
 term:∀ d ts,4*ts.length+2≤f→zoo L f d ts≠.out
 add:∀ d e ts,4*ts.length+2≤f→sAdd L f d e ts≠.out
 exp:∀ d ts,4*ts.length+3≤f→zon L f d ts≠.out
theorem fu (L:Int):∀ f,Fu L f:=by
 intro f
 induction f with
 | zero=>exact ⟨fun d ts h=>by omega,fun d e ts h=>by omega,fun d ts h=>by omega,fun d e ts h=>by omega,fun d ts h=>by omega⟩
 | succ f ih =>
  have sf:=suf L f
  refine ⟨fun d ts hf h=>?_,fun d e ts hf h=>?_,fun d ts hf h=>?_,fun d e ts hf h=>?_,fun d ts hf h=>?_⟩
  ·simp only [zf3] at h
   split at h
   ·rename_i h1
    have:=z6q h1
    split at h
    ·cases h
    ·rcases z1c h with h|⟨w,s,h2,h3⟩
     ·exact ih.fac _ _ (by omega) h
     ·cases h3
   ·split at h
    ·rename_i h1
     have:=z6q h1
     split at h
     ·cases h
     ·rcases z1c h with h|⟨w,s,h2,h3⟩
      ·exact ih.exp _ _ (by omega) h
      ·rcases z1c h3 with h|⟨w,s,h4,h5⟩
       ·exact z6y h
       ·cases h5
    ·split at h
     ·rcases z1c h with h|⟨w,s,h2,h3⟩
      ·exact zv6 h
      ·cases h3
     ·rcases z1c h with h|⟨w,s,h2,h3⟩
      ·exact zao h
      ·cases h3
  ·simp only [sMul] at h
   split at h
   ·cases h
   ·rename_i j hj
    have:=(zbh hj).1
    rcases z1c h with h|⟨w,s,h2,h3⟩
    ·exact ih.fac _ _ (by omega) h
    ·have:=(sf.fac _ _ _ _ h2).length_le
     exact ih.mul _ _ _ (by omega) h3
  ·simp only [zoo] at h
   rcases z1c h with h|⟨w,s,h2,h3⟩
   ·exact ih.fac _ _ (by omega) h
   ·have:=(sf.fac _ _ _ _ h2).length_le
    exact ih.mul _ _ _ (by omega) h3
  ·simp only [sAdd] at h
   split at h
   ·cases h
   ·rename_i j hj
    have:=(zbh hj).1
    rcases z1c h with h|⟨w,s,h2,h3⟩
    ·exact ih.term _ _ (by omega) h
    ·have:=(sf.term _ _ _ _ h2).length_le
     exact ih.add _ _ _ (by omega) h3
  ·simp only [zon] at h
   rcases z1c h with h|⟨w,s,h2,h3⟩
   ·exact ih.term _ _ (by omega) h
   ·have:=(sf.term _ _ _ _ h2).length_le
    exact ih.add _ _ _ (by omega) h3
section
variable (L:Int)
def eX (ts:List Tok):Rs z4n:=zon L (4*ts.length+3) 0 ts
def cmpS:List ByteArray:=[(ByteArray.mk #[61,61]),(ByteArray.mk #[33,61]),(ByteArray.mk #[60]),(ByteArray.mk #[60,61]),(ByteArray.mk #[62]),(ByteArray.mk #[62,61])]
def zq7 (ts:List Tok):Rs zcg:=(zan L (ByteArray.mk #[40]) ts).bind fun _ r1=>(eX L r1).bind fun l r2=>match z9z cmpS r2 with
 | none=>.er 5 (sAt L r2)
 | some j=>(eX L r2.tail).bind fun r r3=>(zan L (ByteArray.mk #[41]) r3).bind fun _ r4=>.ok ⟨1+(j:Int),l,r⟩ r4
abbrev nB:ByteArray:=ByteArray.mk #[]
def zti (ts:List Tok):Rs z1n:=(zec L ts).bind fun n r1=>(zan L (ByteArray.mk #[46]) r1).bind fun _ r2=>(zec L r2).bind fun t r3=>(zan L (ByteArray.mk #[40]) r3).bind fun _ r4 =>
 (eX L r4).bind fun e r5=>(zan L (ByteArray.mk #[41]) r5).bind fun _ r6=>(zan L (ByteArray.mk #[59]) r6).bind fun _ r7=>.ok (.mk 4 n t e zC [] [] []) r7
def zk6 (ts:List Tok):Rs z1n:=(zq7 L ts).bind fun c r1=>(zan L (ByteArray.mk #[59]) r1).bind fun _ r2=>.ok (.mk 6 nB nB zE c [] [] []) r2
def zo4 (ts:List Tok):Rs z1n:=(zec L ts).bind fun n r1=>(zan L (ByteArray.mk #[59]) r1).bind fun _ r2=>.ok (.mk 7 n nB zE zC [] [] []) r2
def zk7 (ts:List Tok):Rs z1n:=(zec L ts).bind fun n r1=>(zan L (ByteArray.mk #[61]) r1).bind fun _ r2=>(eX L r2).bind fun e r3=>(zan L (ByteArray.mk #[59]) r3).bind fun _ r4=>.ok (.mk 1 n nB e zC [] [] []) r4
end
section
variable {L:Int} {ts r:List Tok}
theorem z021:eX L ts≠.out:=(fu L _).exp _ _ (Nat.le_refl _)
theorem zmp {v:z4n} (h:eX L ts=.ok v r):r <:+ ts:=(suf L _).exp _ _ _ _ h
theorem ztj:zq7 L ts≠.out:=fun h=>by
 unfold zq7 at h
 rcases z1c h with h|⟨_,r1,_,h⟩
 ·exact z6y h
 rcases z1c h with h|⟨l,r2,_,h⟩
 ·exact z021 h
 split at h
 ·cases h
 rcases z1c h with h|⟨_,r3,_,h⟩
 ·exact z021 h
 rcases z1c h with h|⟨_,r4,_,h⟩
 ·exact z6y h
 ·cases h
theorem zfr {v:zcg} (h:zq7 L ts=.ok v r):r <:+ ts∧r.length<ts.length:=by
 unfold zq7 at h
 obtain ⟨_,r1,h1,h⟩:=bind_ok h
 obtain ⟨l,r2,h2,h⟩:=bind_ok h
 split at h
 ·cases h
 obtain ⟨e,r3,h3,h⟩:=bind_ok h
 obtain ⟨_,r4,h4,h⟩:=bind_ok h
 injection h with _ h;subst h
 have q1:=z33 h1
 have q2:=zmp h2
 have q3:=zmp h3
 have q4:=z33 h4
 have q:=q4.1.trans (q3.trans ((List.tail_suffix r2).trans q2))
 exact ⟨q.trans q1.1,by have:=q.length_le;omega⟩
theorem z05o:zti L ts≠.out:=fun h=>by
 unfold zti at h
 rcases z1c h with h|⟨_,_,_,h⟩
 ·exact zao h
 rcases z1c h with h|⟨_,_,_,h⟩
 ·exact z6y h
 rcases z1c h with h|⟨_,_,_,h⟩
 ·exact zao h
 rcases z1c h with h|⟨_,_,_,h⟩
 ·exact z6y h
 rcases z1c h with h|⟨_,_,_,h⟩
 ·exact z021 h
 rcases z1c h with h|⟨_,_,_,h⟩
 ·exact z6y h
 rcases z1c h with h|⟨_,_,_,h⟩
 ·exact z6y h
 ·cases h
theorem z022 {v:z1n} (h:zti L ts=.ok v r):r <:+ ts:=by
 unfold zti at h
 obtain ⟨_,r1,h1,h⟩:=bind_ok h
 obtain ⟨_,r2,h2,h⟩:=bind_ok h
 obtain ⟨_,r3,h3,h⟩:=bind_ok h
 obtain ⟨_,r4,h4,h⟩:=bind_ok h
 obtain ⟨_,r5,h5,h⟩:=bind_ok h
 obtain ⟨_,r6,h6,h⟩:=bind_ok h
 obtain ⟨_,r7,h7,h⟩:=bind_ok h
 injection h with _ h;subst h
 exact (z33 h7).1.trans ((z33 h6).1.trans ((zmp h5).trans ((z33 h4).1.trans ((z4m h3).1.trans ((z33 h2).1.trans (z4m h1).1)))))
theorem zzv:zk6 L ts≠.out:=fun h=>by
 unfold zk6 at h
 rcases z1c h with h|⟨_,_,_,h⟩
 ·exact ztj h
 rcases z1c h with h|⟨_,_,_,h⟩
 ·exact z6y h
 ·cases h
theorem zx5 {v:z1n} (h:zk6 L ts=.ok v r):r <:+ ts:=by
 unfold zk6 at h
 obtain ⟨_,r1,h1,h⟩:=bind_ok h
 obtain ⟨_,r2,h2,h⟩:=bind_ok h
 injection h with _ h;subst h
 exact (z33 h2).1.trans (zfr h1).1
theorem z023:zo4 L ts≠.out:=fun h=>by
 unfold zo4 at h
 rcases z1c h with h|⟨_,_,_,h⟩
 ·exact zao h
 rcases z1c h with h|⟨_,_,_,h⟩
 ·exact z6y h
 ·cases h
theorem zzw {v:z1n} (h:zo4 L ts=.ok v r):r <:+ ts:=by
 unfold zo4 at h
 obtain ⟨_,r1,h1,h⟩:=bind_ok h
 obtain ⟨_,r2,h2,h⟩:=bind_ok h
 injection h with _ h;subst h
 exact (z33 h2).1.trans (z4m h1).1
theorem zzx:zk7 L ts≠.out:=fun h=>by
 unfold zk7 at h
 rcases z1c h with h|⟨_,_,_,h⟩
 ·exact zao h
 rcases z1c h with h|⟨_,_,_,h⟩
 ·exact z6y h
 rcases z1c h with h|⟨_,_,_,h⟩
 ·exact z021 h
 rcases z1c h with h|⟨_,_,_,h⟩
 ·exact z6y h
 ·cases h
theorem zx6 {v:z1n} (h:zk7 L ts=.ok v r):r <:+ ts∧r.length<ts.length:=by
 unfold zk7 at h
 obtain ⟨_,r1,h1,h⟩:=bind_ok h
 obtain ⟨_,r2,h2,h⟩:=bind_ok h
 obtain ⟨_,r3,h3,h⟩:=bind_ok h
 obtain ⟨_,r4,h4,h⟩:=bind_ok h
 injection h with _ h;subst h
 have q1:=z4m h1
 have q:=(z33 h4).1.trans ((zmp h3).trans (z33 h2).1)
 exact ⟨q.trans q1.1,by have:=q.length_le;omega⟩
end
theorem z024 {a:z00} (h:a.f_e≠0):z25 a [(ByteArray.mk #[61,61]),(ByteArray.mk #[33,61]),(ByteArray.mk #[60]),(ByteArray.mk #[60,61]),(ByteArray.mk #[62]),(ByteArray.mk #[62,61])]=some (a,-1):=zzu h _ (by decide)
instance:Inhabited z00:=⟨⟨[],0,0,0,0,0⟩⟩
instance:Inhabited z06:=⟨zA⟩
instance:Inhabited z4j:=⟨⟨0,zA,zA⟩⟩
def zCA:z4j:=⟨0,zA,zA⟩
def zSA:z05:=.mk 0 nB nB zA zCA [] [] []
instance:Inhabited z05:=⟨zSA⟩
instance:Inhabited ByteArray:=⟨nB⟩
theorem z4u {ρ:Type} {P:ρ→Prop} {x:Option ρ} {H:Nat} {r:ρ} (e:x=some r) (p:P r):∃ r,P r∧∀ n,Sn n H x r:=⟨r,p,fun _=>.inl e⟩
theorem eP {a:z00} (h:a.f_e≠0):(∀ w,z08 a w=some a)∧z0p a=some (a,ByteArray.mk #[])∧z2h a=some (a,0)∧z5y a=some (a,vA)∧(∀ w,z0r a w=some (a,false))∧(∀ c,z2q a c=some a)∧z25 a [(ByteArray.mk #[61,61]),(ByteArray.mk #[33,61]),(ByteArray.mk #[60]),(ByteArray.mk #[60,61]),(ByteArray.mk #[62]),(ByteArray.mk #[62,61])]=some (a,-1):=⟨zf4 h,zpa h,z08c h,z08e h,zia h,zp9 h,z024 h⟩
theorem neg1:decide ((-1:Int)<0)=true:=rfl
theorem zv7 {L i:Int} {ts:List Tok} {H:Nat} (hl:ts.length≤2000):TP L 0 i Prod.fst mkE H (fun _=>z5y (PS L ts 0 i)) (eX L ts) :=
 ((px L i _).exp 0 ts (by omega) hl).unf.mono (Nat.zero_le _)
abbrev mkC:zcg→z00→z00 × z4j:=fun v a=>(a,cC v)
theorem z56 {r ts:List Tok} (h:r <:+ ts) (hl:ts.length≤2000):r.length≤2000:=by have:=h.length_le;omega
theorem zzy {L i:Int} {ts:List Tok} {H:Nat} (hl:ts.length≤2000):TP L 0 i Prod.fst mkC H (fun _=>z5z (PS L ts 0 i)) (zq7 L ts):=by
 unfold zq7 z5z
 refine TP.bind (π':=Prod.fst) (mk':=mkC) (z98 hl _) (fun _ r1 h1=>?_) (fun r c p hc he=>z4u (by simp only [eP (a:=r) (z5k hc he),Option.bind_eq_bind,Option.bind_some,neg1,if_true];rfl) ⟨he.1,he.2⟩)
 have l1:=z56 (z33 h1).1 hl
 refine TP.bind (π':=Prod.fst) (mk':=mkC) (zv7 l1) (fun l r2 h2=>?_) (fun r c p hc he=>z4u (by simp only [eP (a:=r.1) (z5k hc he),Option.bind_eq_bind,Option.bind_some,neg1,if_true];rfl) ⟨he.1,he.2⟩)
 have l2:=z56 (zmp h2) l1
 have hw:=zq5 (L:=L) (d:=0) (i:=i) l2 cmpS (by decide)
 cases hs:z9z cmpS r2 with
 | none =>
  rw [hs] at hw
  refine TP.err (r:=((⟨r2.map tokT,L,5,sAt L r2,0,i⟩:z00),⟨0,cE l,zA⟩)) (fun n=>?_) (by decide) ⟨rfl,rfl⟩
  show (z25 (PS L r2 0 i) cmpS).bind _=_
  rw [hw]
  simp only [Option.bind_some,neg1,if_true,zo3,Option.bind_eq_bind]
  rfl
 | some j =>
  rw [hs] at hw
  have hj:=(zbh hs).2
  have hj:j<6:=hj
  have q1:decide (((j:Nat):Int)<0)=false:=by simp
  have q2:IntKind.i64.wrap (1+(j:Int))=1+(j:Int):=w64 (by omega) (by omega)
  have l3:r2.tail.length≤2000:=by have:=(zbh hs).1;omega
  refine TP.eq (y:=fun _=>z5y (PS L r2.tail 0 i)>>=fun v5=>z08 v5.1 (ByteArray.mk #[41])>>=fun v6=>some (v6,(z4j.mk (1+(j:Int)) (cE l) v5.2))) ?_ (fun n=>by
   show (z25 (PS L r2 0 i) cmpS).bind _=_
   rw [hw]
   simp only [Option.bind_some,q1,Bool.false_eq_true,if_false,q2])
  refine TP.bind (π':=Prod.fst) (mk':=mkC) (zv7 l3) (fun e r3 h3=>?_) (fun r c p hc he=>z4u (by simp only [eP (a:=r.1) (z5k hc he),Option.bind_eq_bind,Option.bind_some,neg1,if_true];rfl) ⟨he.1,he.2⟩)
  have l4:=z56 (zmp h3) l3
  refine TP.bind (π':=Prod.fst) (mk':=mkC) (z98 l4 _) (fun _ r4 h4=>TP.pure (fun n=>rfl)) (fun r c p hc he=>z4u (by simp only [eP (a:=r) (z5k hc he),Option.bind_eq_bind,Option.bind_some,neg1,if_true];rfl) ⟨he.1,he.2⟩)
abbrev mkS:z1n→z00→z00 × z05:=fun v a=>(a,cS v)
theorem cZ:cE zE=zA:=by simp only [zE,cE,cEs];rfl
theorem cZC:cC zC=zCA:=by unfold cC zC zCA;simp only [cZ]
theorem z08h {L i:Int} {ts:List Tok} {H:Nat} (hl:ts.length≤2000):TP L 0 i Prod.fst mkS H (fun _=>z84 (PS L ts 0 i)) (zti L ts):=by
 unfold zti z84
 refine TP.bind (π':=Prod.fst) (mk':=mkS) (zdt hl) (fun n r1 h1=>?_) (fun r c p hc he=>z4u (by simp only [eP (a:=r.1) (z5k hc he),Option.bind_eq_bind,Option.bind_some,neg1,if_true];rfl) ⟨he.1,he.2⟩)
 have l1:=z56 (z4m h1).1 hl
 refine TP.bind (π':=Prod.fst) (mk':=mkS) (z98 l1 _) (fun _ r2 h2=>?_) (fun r c p hc he=>z4u (by simp only [eP (a:=r) (z5k hc he),Option.bind_eq_bind,Option.bind_some,neg1,if_true];rfl) ⟨he.1,he.2⟩)
 have l2:=z56 (z33 h2).1 l1
 refine TP.bind (π':=Prod.fst) (mk':=mkS) (zdt l2) (fun t r3 h3=>?_) (fun r c p hc he=>z4u (by simp only [eP (a:=r.1) (z5k hc he),Option.bind_eq_bind,Option.bind_some,neg1,if_true];rfl) ⟨he.1,he.2⟩)
 have l3:=z56 (z4m h3).1 l2
 refine TP.bind (π':=Prod.fst) (mk':=mkS) (z98 l3 _) (fun _ r4 h4=>?_) (fun r c p hc he=>z4u (by simp only [eP (a:=r) (z5k hc he),Option.bind_eq_bind,Option.bind_some,neg1,if_true];rfl) ⟨he.1,he.2⟩)
 have l4:=z56 (z33 h4).1 l3
 refine TP.bind (π':=Prod.fst) (mk':=mkS) (zv7 l4) (fun e r5 h5=>?_) (fun r c p hc he=>z4u (by simp only [eP (a:=r.1) (z5k hc he),Option.bind_eq_bind,Option.bind_some,neg1,if_true];rfl) ⟨he.1,he.2⟩)
 have l5:=z56 (zmp h5) l4
 refine TP.bind (π':=Prod.fst) (mk':=mkS) (z98 l5 _) (fun _ r6 h6=>?_) (fun r c p hc he=>z4u (by simp only [eP (a:=r) (z5k hc he),Option.bind_eq_bind,Option.bind_some,neg1,if_true];rfl) ⟨he.1,he.2⟩)
 have l6:=z56 (z33 h6).1 l5
 refine TP.bind (π':=Prod.fst) (mk':=mkS) (z98 l6 _) (fun _ r7 h7=>TP.pure (fun n=>?_)) (fun r c p hc he=>z4u (by simp only [eP (a:=r) (z5k hc he),Option.bind_eq_bind,Option.bind_some,neg1,if_true];rfl) ⟨he.1,he.2⟩)
 simp only [mkS,cS,cZC,cL,cA]
 rfl
theorem z025 {L i:Int} {ts:List Tok} {H:Nat} (hl:ts.length≤2000):TP L 0 i Prod.fst mkS H (fun _=>z7d (PS L ts 0 i)) (zk6 L ts):=by
 unfold zk6 z7d
 refine TP.bind (π':=Prod.fst) (mk':=mkS) (zzy hl) (fun n r1 h1=>?_) (fun r c p hc he=>z4u (by simp only [eP (a:=r.1) (z5k hc he),Option.bind_eq_bind,Option.bind_some,neg1,if_true];rfl) ⟨he.1,he.2⟩)
 have l1:=z56 (zfr h1).1 hl
 refine TP.bind (π':=Prod.fst) (mk':=mkS) (z98 l1 _) (fun _ r2 h2=>TP.pure (fun n=>?_)) (fun r c p hc he=>z4u (by simp only [eP (a:=r) (z5k hc he),Option.bind_eq_bind,Option.bind_some,neg1,if_true];rfl) ⟨he.1,he.2⟩)
 simp only [mkS,cS,cZ,cL,cA]
 rfl
theorem z05p {L i:Int} {ts:List Tok} {H:Nat} (hl:ts.length≤2000):TP L 0 i Prod.fst mkS H (fun _=>z7r (PS L ts 0 i)) (zo4 L ts):=by
 unfold zo4 z7r
 refine TP.bind (π':=Prod.fst) (mk':=mkS) (zdt hl) (fun n r1 h1=>?_) (fun r c p hc he=>z4u (by simp only [eP (a:=r.1) (z5k hc he),Option.bind_eq_bind,Option.bind_some,neg1,if_true];rfl) ⟨he.1,he.2⟩)
 have l1:=z56 (z4m h1).1 hl
 refine TP.bind (π':=Prod.fst) (mk':=mkS) (z98 l1 _) (fun _ r2 h2=>TP.pure (fun n=>?_)) (fun r c p hc he=>z4u (by simp only [eP (a:=r) (z5k hc he),Option.bind_eq_bind,Option.bind_some,neg1,if_true];rfl) ⟨he.1,he.2⟩)
 simp only [mkS,cS,cZ,cZC,cL,cA]
 rfl
theorem z026 {L i:Int} {ts:List Tok} {H:Nat} (hl:ts.length≤2000):TP L 0 i Prod.fst mkS H (fun _=>z7e (PS L ts 0 i)) (zk7 L ts):=by
 unfold zk7 z7e
 refine TP.bind (π':=Prod.fst) (mk':=mkS) (zdt hl) (fun n r1 h1=>?_) (fun r c p hc he=>z4u (by simp only [eP (a:=r.1) (z5k hc he),Option.bind_eq_bind,Option.bind_some,neg1,if_true];rfl) ⟨he.1,he.2⟩)
 have l1:=z56 (z4m h1).1 hl
 refine TP.bind (π':=Prod.fst) (mk':=mkS) (z98 l1 _) (fun _ r2 h2=>?_) (fun r c p hc he=>z4u (by simp only [eP (a:=r) (z5k hc he),Option.bind_eq_bind,Option.bind_some,neg1,if_true];rfl) ⟨he.1,he.2⟩)
 have l2:=z56 (z33 h2).1 l1
 refine TP.bind (π':=Prod.fst) (mk':=mkS) (zv7 l2) (fun e r3 h3=>?_) (fun r c p hc he=>z4u (by simp only [eP (a:=r.1) (z5k hc he),Option.bind_eq_bind,Option.bind_some,neg1,if_true];rfl) ⟨he.1,he.2⟩)
 have l3:=z56 (zmp h3) l2
 refine TP.bind (π':=Prod.fst) (mk':=mkS) (z98 l3 _) (fun _ r4 h4=>TP.pure (fun n=>?_)) (fun r c p hc he=>z4u (by simp only [eP (a:=r) (z5k hc he),Option.bind_eq_bind,Option.bind_some,neg1,if_true];rfl) ⟨he.1,he.2⟩)
 simp only [mkS,cS,cZC,cL,cA]
 rfl
section
variable {a:z00} (h:a.f_e≠0)
include h
end
section
variable (L:Int)
mutual
def zh8:Nat→Nat→List Tok→Rs (List z1n)
 | 0,_,_=>.out
 | f+1,i,ts=>match zop f i ts with
  | none=>.ok [] ts
  | some o=>o.bind fun s r=>(zh8 f i r).bind fun l r'=>.ok (s::l) r'
def zop:Nat→Nat→List Tok→Option (Rs z1n)
 | 0,_,_=>some .out
 | f+1,i,ts =>
  if z6i (ByteArray.mk #[105,102]) ts then some ((zq7 L ts.tail).bind fun c r1=>(zh9 f i r1).bind fun b r2 =>
   if z6i (ByteArray.mk #[101,108,115,101]) r2 then (zh9 f i r2.tail).bind fun l r3=>.ok (.mk 2 nB nB zE c b l []) r3 else .ok (.mk 2 nB nB zE c b [] []) r2)
  else if z6i (ByteArray.mk #[119,104,105,108,101]) ts then some ((zq7 L ts.tail).bind fun c r1=>(zh9 f i r1).bind fun b r2=>.ok (.mk 3 nB nB zE c b [] []) r2)
  else if z6i (ByteArray.mk #[115,101,110,100]) ts then some (zti L ts.tail)
  else if z6i (ByteArray.mk #[114,101,99,118]) ts then some ((zec L ts.tail).bind fun n r1=>(zan L (ByteArray.mk #[123]) r1).bind fun _ r2=>(sArm f i r2).bind fun a r3=>(zmc f i r3).bind fun l r4 =>
   (zan L (ByteArray.mk #[125]) r4).bind fun _ r5=>.ok (.mk 5 n nB zE zC [] [] (a::l)) r5)
  else if z6i (ByteArray.mk #[97,115,115,101,114,116]) ts then some (zk6 L ts.tail)
  else if z6i (ByteArray.mk #[105,110,112,117,116]) ts then some (zo4 L ts.tail)
  else if sOf 1 ts then some (zk7 L ts)
  else none
def sArm:Nat→Nat→List Tok→Rs z8w
 | 0,_,_=>.out
 | f+1,i,ts=>(zec L ts).bind fun t r1=>(zan L (ByteArray.mk #[40]) r1).bind fun _ r2=>(zec L r2).bind fun v r3=>(zan L (ByteArray.mk #[41]) r3).bind fun _ r4=>(zh9 f i r4).bind fun b r5=>.ok (.mk t v b) r5
def zmc:Nat→Nat→List Tok→Rs (List z8w)
 | 0,_,_=>.out
 | f+1,i,ts=>if z6i (ByteArray.mk #[125]) ts then .ok [] ts else (sArm f i ts).bind fun a r=>(zmc f i r).bind fun l r'=>.ok (a::l) r'
def zh9:Nat→Nat→List Tok→Rs (List z1n)
 | 0,_,_=>.out
 | f+1,i,ts=>if z6i (ByteArray.mk #[123]) ts&&decide (i=24) then .er 6 (sAt L ts)
  else (zan L (ByteArray.mk #[123]) ts).bind fun _ r1=>(zh8 f (i+1) r1).bind fun b r2=>(zan L (ByteArray.mk #[125]) r2).bind fun _ r3=>.ok b r3
end
end
structure SufS (L:Int) (f:Nat):Prop where
 stmts:∀ i ts v r,zh8 L f i ts=.ok v r→r <:+ ts
 stmt:∀ i ts v r,zop L f i ts=some (.ok v r)→r <:+ ts∧r.length<ts.length
 arm:∀ i ts v r,sArm L f i ts=.ok v r→r <:+ ts∧r.length<ts.length
 arms:∀ i ts v r,zmc L f i ts=.ok v r→r <:+ ts
 block:∀ i ts v r,zh9 L f i ts=.ok v r→r <:+ ts
theorem ztk {r s ts:List Tok} (h:r <:+ s) (q:s <:+ ts) (w:s.length<ts.length):r <:+ ts∧r.length<ts.length:=⟨h.trans q,by have:=h.length_le;omega⟩
theorem zbn {w:ByteArray} {r ts:List Tok} (h:z6i w ts=true) (q:r <:+ ts.tail):r <:+ ts∧r.length<ts.length:=ztk q (List.tail_suffix ts) (z6q h)
theorem sufS (L:Int):∀ f,SufS L f:=by
 intro f
 induction f with
 | zero=>exact ⟨fun i ts v r h=>by simp [zh8] at h,fun i ts v r h=>by simp [zop] at h,fun i ts v r h=>by simp [sArm] at h,fun i ts v r h=>by simp [zmc] at h,fun i ts v r h=>by simp [zh9] at h⟩
 | succ f ih =>
  refine ⟨fun i ts v r h=>?_,fun i ts v r h=>?_,fun i ts v r h=>?_,fun i ts v r h=>?_,fun i ts v r h=>?_⟩
  ·simp only [zh8] at h
   split at h
   ·injection h with _ h;subst h;exact List.suffix_refl _
   ·rename_i o ho
    obtain ⟨s,r1,h1,h⟩:=bind_ok h
    obtain ⟨l,r2,h2,h⟩:=bind_ok h
    injection h with _ h;subst h
    subst h1
    exact (ih.stmts _ _ _ _ h2).trans (ih.stmt _ _ _ _ ho).1
  ·simp only [zop] at h
   split at h
   ·rename_i hs
    injection h with h
    obtain ⟨c,r1,h1,h⟩:=bind_ok h
    obtain ⟨b,r2,h2,h⟩:=bind_ok h
    have q:=(ih.block _ _ _ _ h2).trans (zfr h1).1
    split at h
    ·obtain ⟨l,r3,h3,h⟩:=bind_ok h
     injection h with _ h;subst h
     exact zbn hs ((ih.block _ _ _ _ h3).trans ((List.tail_suffix r2).trans q))
    ·injection h with _ h;subst h
     exact zbn hs q
   split at h
   ·rename_i hs
    injection h with h
    obtain ⟨c,r1,h1,h⟩:=bind_ok h
    obtain ⟨b,r2,h2,h⟩:=bind_ok h
    injection h with _ h;subst h
    exact zbn hs ((ih.block _ _ _ _ h2).trans (zfr h1).1)
   split at h
   ·rename_i hs
    injection h with h
    exact zbn hs (z022 h)
   split at h
   ·rename_i hs
    injection h with h
    obtain ⟨n,r1,h1,h⟩:=bind_ok h
    obtain ⟨_,r2,h2,h⟩:=bind_ok h
    obtain ⟨a,r3,h3,h⟩:=bind_ok h
    obtain ⟨l,r4,h4,h⟩:=bind_ok h
    obtain ⟨_,r5,h5,h⟩:=bind_ok h
    injection h with _ h;subst h
    exact zbn hs ((z33 h5).1.trans ((ih.arms _ _ _ _ h4).trans ((ih.arm _ _ _ _ h3).1.trans ((z33 h2).1.trans (z4m h1).1))))
   split at h
   ·rename_i hs
    injection h with h
    exact zbn hs (zx5 h)
   split at h
   ·rename_i hs
    injection h with h
    exact zbn hs (zzw h)
   split at h
   ·injection h with h
    exact zx6 h
   ·cases h
  ·simp only [sArm] at h
   obtain ⟨n,r1,h1,h⟩:=bind_ok h
   obtain ⟨_,r2,h2,h⟩:=bind_ok h
   obtain ⟨a,r3,h3,h⟩:=bind_ok h
   obtain ⟨_,r4,h4,h⟩:=bind_ok h
   obtain ⟨b,r5,h5,h⟩:=bind_ok h
   injection h with _ h;subst h
   have q:=z4m h1
   exact ztk ((ih.block _ _ _ _ h5).trans ((z33 h4).1.trans ((z4m h3).1.trans (z33 h2).1))) q.1 q.2
  ·simp only [zmc] at h
   split at h
   ·injection h with _ h;subst h;exact List.suffix_refl _
   ·obtain ⟨s,r1,h1,h⟩:=bind_ok h
    obtain ⟨l,r2,h2,h⟩:=bind_ok h
    injection h with _ h;subst h
    exact (ih.arms _ _ _ _ h2).trans (ih.arm _ _ _ _ h1).1
  ·simp only [zh9] at h
   split at h
   ·cases h
   ·obtain ⟨_,r1,h1,h⟩:=bind_ok h
    obtain ⟨b,r2,h2,h⟩:=bind_ok h
    obtain ⟨_,r3,h3,h⟩:=bind_ok h
    injection h with _ h;subst h
    exact (z33 h3).1.trans ((ih.stmts _ _ _ _ h2).trans (z33 h1).1)
structure FuS (L:Int) (f:Nat):Prop where
 stmts:∀ i ts,3*ts.length+2≤f→zh8 L f i ts≠.out
 stmt:∀ i ts,3*ts.length+1≤f→zop L f i ts≠some .out
 arm:∀ i ts,3*ts.length+1≤f→sArm L f i ts≠.out
 arms:∀ i ts,3*ts.length+2≤f→zmc L f i ts≠.out
 block:∀ i ts,3*ts.length+1≤f→zh9 L f i ts≠.out
theorem fuS (L:Int):∀ f,FuS L f:=by
 intro f
 induction f with
 | zero=>exact ⟨fun i ts h=>by omega,fun i ts h=>by omega,fun i ts h=>by omega,fun i ts h=>by omega,fun i ts h=>by omega⟩
 | succ f ih =>
  have sf:=sufS L f
  refine ⟨fun i ts hf h=>?_,fun i ts hf h=>?_,fun i ts hf h=>?_,fun i ts hf h=>?_,fun i ts hf h=>?_⟩
  ·simp only [zh8] at h
   split at h
   ·cases h
   ·rename_i o ho
    rcases z1c h with h0|⟨s,r1,h1,h0⟩
    ·subst h0;exact ih.stmt _ _ (by omega) ho
    ·subst h1
     have:=(sf.stmt _ _ _ _ ho).2
     rcases z1c h0 with h2|⟨l,r2,h2,h3⟩
     ·exact ih.stmts _ _ (by omega) h2
     ·cases h3
  ·simp only [zop] at h
   split at h
   ·rename_i hs
    have:=z6q hs
    injection h with h
    rcases z1c h with h|⟨c,r1,h1,h⟩
    ·exact ztj h
    have q1:=(zfr h1).1.length_le
    rcases z1c h with h|⟨b,r2,h2,h⟩
    ·exact ih.block _ _ (by omega) h
    have q2:=(sf.block _ _ _ _ h2).length_le
    split at h
    ·rename_i he
     have:=z6q he
     rcases z1c h with h|⟨l,r3,h3,h⟩
     ·exact ih.block _ _ (by omega) h
     ·cases h
    ·cases h
   split at h
   ·rename_i hs
    have:=z6q hs
    injection h with h
    rcases z1c h with h|⟨c,r1,h1,h⟩
    ·exact ztj h
    have q1:=(zfr h1).1.length_le
    rcases z1c h with h|⟨b,r2,h2,h⟩
    ·exact ih.block _ _ (by omega) h
    ·cases h
   split at h
   ·injection h with h;exact z05o h
   split at h
   ·rename_i hs
    have:=z6q hs
    injection h with h
    rcases z1c h with h|⟨n,r1,h1,h⟩
    ·exact zao h
    have q1:=(z4m h1).2
    rcases z1c h with h|⟨_,r2,h2,h⟩
    ·exact z6y h
    have q2:=(z33 h2).2
    rcases z1c h with h|⟨a,r3,h3,h⟩
    ·exact ih.arm _ _ (by omega) h
    have q3:=(sf.arm _ _ _ _ h3).2
    rcases z1c h with h|⟨l,r4,h4,h⟩
    ·exact ih.arms _ _ (by omega) h
    rcases z1c h with h|⟨_,r5,h5,h⟩
    ·exact z6y h
    ·cases h
   split at h
   ·injection h with h;exact zzv h
   split at h
   ·injection h with h;exact z023 h
   split at h
   ·injection h with h;exact zzx h
   ·cases h
  ·simp only [sArm] at h
   rcases z1c h with h|⟨t,r1,h1,h⟩
   ·exact zao h
   have q1:=(z4m h1).2
   rcases z1c h with h|⟨_,r2,h2,h⟩
   ·exact z6y h
   have q2:=(z33 h2).2
   rcases z1c h with h|⟨v,r3,h3,h⟩
   ·exact zao h
   have q3:=(z4m h3).2
   rcases z1c h with h|⟨_,r4,h4,h⟩
   ·exact z6y h
   have q4:=(z33 h4).2
   rcases z1c h with h|⟨b,r5,h5,h⟩
   ·exact ih.block _ _ (by omega) h
   ·cases h
  ·simp only [zmc] at h
   split at h
   ·cases h
   ·rcases z1c h with h|⟨a,r1,h1,h⟩
    ·exact ih.arm _ _ (by omega) h
    have q1:=(sf.arm _ _ _ _ h1).2
    rcases z1c h with h|⟨l,r2,h2,h⟩
    ·exact ih.arms _ _ (by omega) h
    ·cases h
  ·simp only [zh9] at h
   split at h
   ·cases h
   ·rcases z1c h with h|⟨_,r1,h1,h⟩
    ·exact z6y h
    have q1:=(z33 h1).2
    rcases z1c h with h|⟨b,r2,h2,h⟩
    ·exact ih.stmts _ _ (by omega) h
    rcases z1c h with h|⟨_,r3,h3,h⟩
    ·exact z6y h
    ·cases h
abbrev S7:=List z0n × Int × Int × Int × Int × Int × List z05
abbrev A7:=List z0n × Int × Int × Int × Int × Int × List z1r
def tpS (a:z00) (l:List z05):S7:=(a.f_l,a.f_end,a.f_e,a.f_at,a.f_deep,a.f_in,l)
def tpA (a:z00) (l:List z1r):A7:=(a.f_l,a.f_end,a.f_e,a.f_at,a.f_deep,a.f_in,l)
noncomputable def SB (n:Nat):=z8t (z1b n) (z0y n) (z15 n) (z2d n) (z26 n) (z0t n) (z1i n)
noncomputable def RB (n:Nat):=z6u (z1b n) (z0y n) (z15 n) (z2d n) (z26 n) (z0t n) (z1i n)
noncomputable def SL (n:Nat) (a:z00) (l:List z05):Option (z00 × List z05):=iter (SB n) (tpS a l)>>=Sum.elim (fun r=>some r) (fun _=>none)
noncomputable def AL (n:Nat) (a:z00) (l:List z1r):Option (z00 × List z1r):=iter (RB n) (tpA a l)>>=Sum.elim (fun _=>none) (fun j1=>some (⟨j1.1,j1.2.1,j1.2.2.1,j1.2.2.2.1,j1.2.2.2.2.1,j1.2.2.2.2.2.1⟩,j1.2.2.2.2.2.2))
theorem z08i (n:Nat) (a:z00) (l:List z05):SL n a l=z0y n a>>=fun v1=>if (!v1.2.2) then some (v1.1,l) else app 288 l [v1.2.1]>>=fun v2=>SL n v1.1 v2:=by
 have hb:SB n (tpS a l)=z0y n a>>=fun v1=>if (!v1.2.2) then some (.inr (.inl (v1.1,l))) else app 288 l [v1.2.1]>>=fun v2=>some (.inl (tpS v1.1 v2)):=rfl
 unfold SL
 rw [zce,hb]
 simp only [Option.bind_eq_bind,Option.bind_assoc]
 congr 1;funext v1
 cases v1.2.2 with
 | false=>rfl
 | true =>
  simp only [Bool.not_true,Bool.false_eq_true,if_false,Option.bind_assoc]
  congr 1
theorem AL_e {a:z00} (h:a.f_e≠0) (n:Nat) (l:List z1r):AL n a l=some (a,l):=by
 unfold AL
 rw [z4l (r:=.inr (tpA a l)) (by
  unfold RB z6u
  rw [if_neg (by simpa [tpA] using h)]
  rfl)]
 rfl
theorem z0a5 {L d i:Int} {ts:List Tok} (n:Nat) (l:List z1r):AL n (PS L ts d i) l=if z6i (ByteArray.mk #[125]) ts then some (PS L ts d i,l) else z1i n (PS L ts d i)>>=fun v=>app 56 l [v.2]>>=fun v2=>AL n v.1 v2:=by
 have hb:RB n (tpA (PS L ts d i) l)=if z6i (ByteArray.mk #[125]) ts then some (.inr (.inr (tpA (PS L ts d i) l))) else z1i n (PS L ts d i)>>=fun v=>app 56 l [v.2]>>=fun v2=>some (.inl (tpA v.1 v2)):=by
  unfold RB z6u
  rw [if_pos (by rfl)]
  show ((z3j (PS L ts d i) (ByteArray.mk #[125])>>=fun v5=>some (!v5))>>=_)=_
  rw [zj9]
  cases z6i (ByteArray.mk #[125]) ts <;> rfl
 unfold AL
 rw [zce,hb]
 cases z6i (ByteArray.mk #[125]) ts with
 | true=>rfl
 | false =>
  simp only [Option.bind_eq_bind,Option.bind_assoc,Bool.false_eq_true,if_false]
  congr 1
section
variable {a:z00} (h:a.f_e≠0)
include h
theorem z08j (n:Nat):Sn n 1 (z0y n a) (a,zSA,false):=by
 cases n with
 | zero=>exact .inr ⟨rfl,by omega⟩
 | succ n =>
  refine .inl ?_
  simp only [z0y,zia h,of_e h,Option.bind_eq_bind,Option.bind_some,Bool.false_eq_true,if_false]
  rfl
theorem SL_e (n:Nat) (l:List z05):Sn n 1 (SL n a l) (a,l):=by
 rw [z08i]
 exact Sn.bind (f:=fun v1=>if (!v1.2.2) then some (v1.1,l) else app 288 l [v1.2.1]>>=fun v2=>SL n v1.1 v2) (z08j h n) (.inl rfl)
theorem ztl (n:Nat):Sn n 2 (z1b n a) (a,[]):=by
 cases n with
 | zero=>exact .inr ⟨rfl,by omega⟩
 | succ n=>exact (SL_e h n []).up
end
def bE (a:z00):z00:=⟨a.f_l,a.f_end,a.f_e,a.f_at,a.f_deep,IntKind.i64.wrap (IntKind.i64.wrap (a.f_in+1) - 1)⟩
section
variable {a:z00} (h:a.f_e≠0)
include h
theorem zq8 (n:Nat):Sn n 3 (z0t n a) (bE a,[]):=by
 cases n with
 | zero=>exact .inr ⟨rfl,by omega⟩
 | succ n =>
  simp only [z0t,zzt h,Option.bind_eq_bind,Option.bind_some,Bool.false_eq_true,if_false,zf4 h]
  refine (Sn.bind (f:=fun v4:z00 × List z05=>(z08 (z00.mk v4.1.f_l v4.1.f_end v4.1.f_e v4.1.f_at v4.1.f_deep (IntKind.i64.wrap (v4.1.f_in - 1))) (ByteArray.mk #[125])).bind fun v5=>some (v5,v4.2)) (ztl (a:=⟨a.f_l,a.f_end,a.f_e,a.f_at,a.f_deep,IntKind.i64.wrap (a.f_in+1)⟩) h n) (.inl ?_)).up
  show (z08 (bE a) (ByteArray.mk #[125])).bind _=_
  rw [zf4 (a:=bE a) h];rfl
theorem z0a6 (n:Nat):Sn n 4 (z1i n a) (bE a,.mk nB nB []):=by
 cases n with
 | zero=>exact .inr ⟨rfl,by omega⟩
 | succ n =>
  simp only [z1i,zpa h,zf4 h,Option.bind_eq_bind,Option.bind_some]
  exact (Sn.bind (f:=fun v5:z00 × List z05=>some (v5.1,z1r.mk (ByteArray.mk #[]) (ByteArray.mk #[]) v5.2)) (zq8 h n) (.inl rfl)).up
end
def TS (L i:Int) (H:Nat) (x:Nat→Option (z00 × z05 × Bool)) (ts:List Tok):Option (Rs z1n)→Prop
 | none=>∀ n,Sn n H (x n) (PS L ts 0 i,zSA,false)
 | some o=>TP L 0 i Prod.fst (fun v a=>(a,cS v,true)) H x o
structure PT (L:Int) (f:Nat):Prop where
 stmts:∀ (i:Nat) ts acc,i≤24→ts.length≤2000→acc.length+ts.length≤2000→TP L 0 i Prod.fst (fun v a=>(a,acc++cL v)) (2*f+6) (fun n=>SL n (PS L ts 0 i) acc) (zh8 L f i ts)
 stmt:∀ (i:Nat) ts,i≤24→ts.length≤2000→TS L i (2*f+6) (fun n=>z0y n (PS L ts 0 i)) ts (zop L f i ts)
 arm:∀ (i:Nat) ts,i≤24→ts.length≤2000→TP L 0 i Prod.fst (fun v a=>(a,cArm v)) (2*f+6) (fun n=>z1i n (PS L ts 0 i)) (sArm L f i ts)
 arms:∀ (i:Nat) ts acc,i≤24→ts.length≤2000→acc.length+ts.length≤2000→TP L 0 i Prod.fst (fun v a=>(a,acc++cA v)) (2*f+6) (fun n=>AL n (PS L ts 0 i) acc) (zmc L f i ts)
 block:∀ (i:Nat) ts,i≤24→ts.length≤2000→TP L 0 i Prod.fst (fun v a=>(a,cL v)) (2*f+6) (fun n=>z0t n (PS L ts 0 i)) (zh9 L f i ts)
theorem TP.map {ρ β γ:Type} {L d i:Int} {π:ρ→z00} {mk:β→z00→ρ} {mk':γ→z00→ρ} {H:Nat} {x:Nat→Option ρ} {o:Rs β} {g:β→γ}
  (h:TP L d i π mk H x o) (e:∀ v a,mk v a=mk' (g v) a):TP L d i π mk' H x (o.bind fun v r=>.ok (g v) r):=by
 intro hne
 cases o with
 | ok v ts =>
  obtain ⟨r,hr,hs⟩:=h (by simp)
  exact ⟨r,Eq.trans hr (e v _),hs⟩
 | er c p=>exact h (by simp)
 | out=>exact absurd rfl hne
theorem z03g (x:z8w) (l:List z8w):cA (x::l)=cArm x::cA l:=by cases x;rfl
abbrev mkL:List z1n→z00→z00 × List z05:=fun v a=>(a,cL v)
abbrev mkT:z1n→z00→z00 × z05 × Bool:=fun v a=>(a,cS v,true)
theorem zo5 {L i:Int} {H:Nat} {x:Nat→Option (z00 × z05)} {o:Rs z1n} (h:TP L 0 i Prod.fst mkS H x o):TP L 0 i Prod.fst mkT H (fun n=>x n>>=fun v=>some (v.1,v.2,true)) o:=by
 intro hne
 obtain ⟨r,g,s⟩:=h hne
 refine ⟨(r.1,r.2,true),?_,fun n=>Sn.bind (f:=fun v=>some (v.1,v.2,true)) (s n) (.inl rfl)⟩
 cases o with
 | ok v ts=>have g:r=mkS v (PS L ts 0 i):=g;subst g;rfl
 | er c p=>exact g
 | out=>exact absurd rfl hne
theorem pt (L:Int):∀ f,PT L f:=by
 intro f
 induction f with
 | zero=>exact ⟨fun i ts acc _ _ _=>by simp only [zh8];exact zic,fun i ts _ _=>by simp only [zop];exact zic,fun i ts _ _=>by simp only [sArm];exact zic,fun i ts acc _ _ _=>by simp only [zmc];exact zic,fun i ts _ _=>by simp only [zh9];exact zic⟩
 | succ f ih =>
  have sf:=sufS L f
  refine ⟨fun i ts acc hi hl ha=>?_,fun i ts hi hl=>?_,fun i ts hi hl=>?_,fun i ts acc hi hl ha=>?_,fun i ts hi hl=>?_⟩
  ·-- statements
   simp only [zh8]
   have h1:=ih.stmt i ts hi hl
   refine TP.eq (y:=fun n=>z0y n (PS L ts 0 i)>>=fun v1=>if (!v1.2.2) then some (v1.1,acc) else app 288 acc [v1.2.1]>>=fun v2=>SL n v1.1 v2) ?_ (fun n=>z08i n _ _)
   cases hs:zop L f i ts with
   | none =>
    rw [hs] at h1
    have h1:∀ n,Sn n (2*f+6) (z0y n (PS L ts 0 i)) (PS L ts 0 i,zSA,false):=h1
    refine fun _=>⟨(PS L ts 0 i,acc),by simp [GP,cL],fun n=>((h1 n).mono (show 2*f+6≤2*(f+1)+6 by omega)).bind (f:=fun v1=>if (!v1.2.2) then some (v1.1,acc) else app 288 acc [v1.2.1]>>=fun v2=>SL n v1.1 v2) (.inl rfl)⟩
   | some o =>
    rw [hs] at h1
    have h1:TP L 0 i Prod.fst mkT (2*f+6) (fun n=>z0y n (PS L ts 0 i)) o:=h1
    refine TP.mono (H:=2*f+6) ?_ (by omega)
    refine TP.bind (π':=Prod.fst) (mk':=fun v a=>(a,acc++cL v)) h1 (fun s r ho=>?_) (fun r c p hc he=>?_)
    ·subst ho
     have q:=sf.stmt _ _ _ _ hs
     have ql:=z56 q.1 hl
     refine TP.eq (y:=fun n=>SL n (PS L r 0 i) (acc++[cS s])) ?_ (fun n=>?_)
     ·refine TP.map (g:=fun l=>s::l) (ih.stmts i r (acc++[cS s]) hi ql (by simp;omega)) (fun v a=>?_)
      simp [cL]
     ·show (if (!true) then _ else (app 288 acc [cS s]).bind _)=_
      rw [z7v (by simp;omega)];rfl
    ·have hq:r.1.f_e≠0:=z5k hc he
     cases hb:r.2.2 with
     | false=>exact ⟨(r.1,acc),he,fun n=>.inl rfl⟩
     | true =>
      refine ⟨(r.1,acc++[r.2.1]),he,fun n=>?_⟩
      show Sn n _ (app 288 acc [r.2.1]>>=fun v2=>SL n r.1 v2) _
      rw [z7v (by simp;omega)]
      exact (SL_e hq n _).mono (by omega)
  ·-- a statement
   simp only [zop]
   cases h1:z6i (ByteArray.mk #[105,102]) ts with
   | true =>
    have l0:ts.tail.length≤2000:=by have:=z6q h1;omega
    simp only [if_true]
    refine TP.up (H:=2*f+7) (x:=fun n=>z15 n (PS L ts.tail 0 i)>>=fun v=>some (v.1,v.2,true)) rfl (fun n=>by simp only [z0y,zb5 hl,h1,Option.bind_eq_bind,Option.bind_some,if_true]) ?_
    refine zo5 ?_
    refine TP.up (H:=2*f+6) (x:=fun n=>z5z (PS L ts.tail 0 i)>>=fun v1=>z0t n v1.1>>=fun v2=>z0r v2.1 (ByteArray.mk #[101,108,115,101])>>=fun v3=>if v3.2 then (z0t n v3.1>>=fun v4=>some (v4.1,(z05.mk 2 nB nB zA v1.2 v2.2 v4.2 []))) else (some (v3.1,(z05.mk 2 nB nB zA v1.2 v2.2 [] [])))) rfl (fun n=>rfl) ?_
    refine TP.bind (π':=Prod.fst) (mk':=mkS) (zzy l0) (fun c r1 h2=>?_) (fun r c p hc he=>⟨(bE r.1,.mk 2 nB nB zA r.2 [] [] []),he,fun n=>((zq8 (z5k hc he) n).mono (by omega)).bind (f:=fun v2=>z0r v2.1 (ByteArray.mk #[101,108,115,101])>>=fun v3=>if v3.2 then (z0t n v3.1>>=fun v4=>some (v4.1,(z05.mk 2 nB nB zA r.2 v2.2 v4.2 []))) else (some (v3.1,(z05.mk 2 nB nB zA r.2 v2.2 [] [])))) (.inl (by rw [zia (a:=bE r.1) (z5k hc he)];rfl))⟩)
    have l1:=z56 (zfr h2).1 l0
    refine TP.bind (π':=Prod.fst) (mk':=mkS) (ih.block i r1 hi l1) (fun b r2 h3=>?_) (fun r cc p hc he=>⟨(r.1,.mk 2 nB nB zA (cC c) r.2 [] []),he,fun n=>.inl (by rw [zia (a:=r.1) (z5k hc he)];rfl)⟩)
    have l2:=z56 (sf.block _ _ _ _ h3) l1
    cases h4:z6i (ByteArray.mk #[101,108,115,101]) r2 with
    | true =>
     have l3:r2.tail.length≤2000:=by have:=z6q h4;omega
     simp only [if_true]
     refine TP.eq (y:=fun n=>z0t n (PS L r2.tail 0 i)>>=fun v4=>some (v4.1,(z05.mk 2 nB nB zA (cC c) (cL b) v4.2 []))) ?_ (fun n=>by simp only [zb5 l2,h4,Option.bind_eq_bind,Option.bind_some,if_true])
     refine TP.bind (π':=Prod.fst) (mk':=mkS) (ih.block i r2.tail hi l3) (fun l r3 h5=>TP.pure (fun n=>?_)) (fun r cc p hc he=>⟨(r.1,.mk 2 nB nB zA (cC c) (cL b) r.2 []),he,fun n=>.inl rfl⟩)
     simp only [mkS,cS,cZ,cA]
    | false =>
     simp only [Bool.false_eq_true,if_false]
     refine TP.pure (fun n=>?_)
     simp only [zb5 l2,h4,Option.bind_eq_bind,Option.bind_some,Bool.false_eq_true,if_false,mkS,cS,cZ,cA,cL]
   | false =>
   simp only [Bool.false_eq_true,if_false]
   cases h2:z6i (ByteArray.mk #[119,104,105,108,101]) ts with
   | true =>
    have l0:ts.tail.length≤2000:=by have:=z6q h2;omega
    simp only [if_true]
    refine TP.up (H:=2*f+7) (x:=fun n=>z2d n (PS L ts.tail 0 i)>>=fun v=>some (v.1,v.2,true)) rfl (fun n=>by simp only [z0y,zb5 hl,h1,h2,Option.bind_eq_bind,Option.bind_some,if_true,Bool.false_eq_true,if_false]) ?_
    refine zo5 ?_
    refine TP.up (H:=2*f+6) (x:=fun n=>z5z (PS L ts.tail 0 i)>>=fun v1=>z0t n v1.1>>=fun v2=>some (v2.1,(z05.mk 3 nB nB zA v1.2 v2.2 [] []))) rfl (fun n=>rfl) ?_
    refine TP.bind (π':=Prod.fst) (mk':=mkS) (zzy l0) (fun c r1 h2=>?_) (fun r c p hc he=>⟨(bE r.1,.mk 3 nB nB zA r.2 [] [] []),he,fun n=>((zq8 (z5k hc he) n).mono (by omega)).bind (f:=fun v2=>some (v2.1,(z05.mk 3 nB nB zA r.2 v2.2 [] []))) (.inl rfl)⟩)
    have l1:=z56 (zfr h2).1 l0
    refine TP.bind (π':=Prod.fst) (mk':=mkS) (ih.block i r1 hi l1) (fun b r2 h3=>TP.pure (fun n=>?_)) (fun r cc p hc he=>⟨(r.1,.mk 3 nB nB zA (cC c) r.2 [] []),he,fun n=>.inl rfl⟩)
    simp only [mkS,cS,cZ,cA,cL]
   | false =>
   simp only [Bool.false_eq_true,if_false]
   cases h3:z6i (ByteArray.mk #[115,101,110,100]) ts with
   | true =>
    have l0:ts.tail.length≤2000:=by have:=z6q h3;omega
    simp only [if_true]
    refine TP.mono (H:=1) ?_ (by omega)
    refine TP.up (H:=0) (x:=fun n=>z84 (PS L ts.tail 0 i)>>=fun v=>some (v.1,v.2,true)) rfl (fun n=>by simp only [z0y,zb5 hl,h1,h2,h3,Option.bind_eq_bind,Option.bind_some,if_true,Bool.false_eq_true,if_false]) ?_
    exact zo5 (z08h l0)
   | false =>
   simp only [Bool.false_eq_true,if_false]
   cases h4:z6i (ByteArray.mk #[114,101,99,118]) ts with
   | true =>
    have l0:ts.tail.length≤2000:=by have:=z6q h4;omega
    simp only [if_true]
    refine TP.up (H:=2*f+7) (x:=fun n=>z26 n (PS L ts.tail 0 i)>>=fun v=>some (v.1,v.2,true)) rfl (fun n=>by simp only [z0y,zb5 hl,h1,h2,h3,h4,Option.bind_eq_bind,Option.bind_some,if_true,Bool.false_eq_true,if_false]) ?_
    refine zo5 ?_
    refine TP.up (H:=2*f+6) (x:=fun n=>z0p (PS L ts.tail 0 i)>>=fun v1=>z08 v1.1 (ByteArray.mk #[123])>>=fun v2=>z1i n v2>>=fun v3=>app 56 [] [v3.2]>>=fun v4=>AL n v3.1 v4>>=fun w=>z08 w.1 (ByteArray.mk #[125])>>=fun v8=>some (v8,(z05.mk 5 v1.2 nB zA zCA [] [] w.2))) rfl (fun n=>by
     simp only [z26,Option.bind_eq_bind]
     congr 1;funext v1
     congr 1;funext v2
     congr 1;funext v3
     congr 1;funext v4
     unfold AL
     rw [Option.bind_eq_bind,Option.bind_assoc]
     show (iter (RB n) (tpA v3.1 v4)).bind _=(iter (RB n) (tpA v3.1 v4)).bind _
     congr 1;funext o
     cases o <;> rfl) ?_
    have er:∀ (a:z00) (m:ByteArray),a.f_e≠0→∀ n,Sn n (2*f+6) (z1i n a>>=fun v3=>app 56 [] [v3.2]>>=fun v4=>AL n v3.1 v4>>=fun w=>z08 w.1 (ByteArray.mk #[125])>>=fun v8=>some (v8,(z05.mk 5 m nB zA zCA [] [] w.2))) (bE a,.mk 5 m nB zA zCA [] [] [.mk nB nB []]):=fun a m h n=>by
     refine ((z0a6 h n).mono (show 4≤2*f+6 by omega)).bind (f:=fun v3=>app 56 [] [v3.2]>>=fun v4=>AL n v3.1 v4>>=fun w=>z08 w.1 (ByteArray.mk #[125])>>=fun v8=>some (v8,(z05.mk 5 m nB zA zCA [] [] w.2))) (.inl ?_)
     rw [z7v (by simp)]
     show (AL n (bE a) _).bind _=_
     rw [AL_e (a:=bE a) h]
     show (z08 (bE a) _).bind _=_
     rw [zf4 (a:=bE a) h];rfl
    refine TP.bind (π':=Prod.fst) (mk':=mkS) (zdt l0) (fun m r1 q1=>?_) (fun r c p hc he=>⟨(bE r.1,.mk 5 r.2 nB zA zCA [] [] [.mk nB nB []]),he,fun n=>by rw [zf4 (z5k hc he)];exact er r.1 r.2 (z5k hc he) n⟩)
    have l1:=z56 (z4m q1).1 l0
    refine TP.bind (π':=Prod.fst) (mk':=mkS) (z98 l1 _) (fun _ r2 q2=>?_) (fun r c p hc he=>⟨(bE r,.mk 5 m nB zA zCA [] [] [.mk nB nB []]),he,fun n=>er r m (z5k hc he) n⟩)
    have l2:=z56 (z33 q2).1 l1
    refine TP.bind (π':=Prod.fst) (mk':=mkS) (ih.arm i r2 hi l2) (fun x r3 q3=>?_) (fun r c p hc he=>⟨(r.1,.mk 5 m nB zA zCA [] [] [r.2]),he,fun n=>.inl (by
     rw [z7v (by simp)]
     show (AL n r.1 _).bind _=_
     rw [AL_e (z5k hc he)]
     show (z08 r.1 _).bind _=_
     rw [zf4 (z5k hc he)];rfl)⟩)
    have z3:=sf.arm _ _ _ _ q3
    have l3:=z56 z3.1 l2
    refine TP.eq (y:=fun n=>AL n (PS L r3 0 i) [cArm x]>>=fun w=>z08 w.1 (ByteArray.mk #[125])>>=fun v8=>some (v8,(z05.mk 5 m nB zA zCA [] [] w.2))) ?_ (fun n=>by rw [z7v (by simp)];rfl)
    refine TP.bind (π':=Prod.fst) (mk':=mkS) (ih.arms i r3 [cArm x] hi l3 (by simp;omega)) (fun l r4 q4=>?_) (fun r c p hc he=>⟨(r.1,.mk 5 m nB zA zCA [] [] r.2),he,fun n=>.inl (by rw [zf4 (z5k hc he)];rfl)⟩)
    have l4:=z56 (sf.arms _ _ _ _ q4) l3
    refine TP.bind (π':=Prod.fst) (mk':=mkS) (z98 l4 _) (fun _ r5 q5=>TP.pure (fun n=>?_)) (fun r c p hc he=>⟨(r,.mk 5 m nB zA zCA [] [] ([cArm x]++cA l)),he,fun n=>.inl rfl⟩)
    simp only [mkS,cS,cZ,cZC,cL,z03g,List.singleton_append]
   | false =>
   simp only [Bool.false_eq_true,if_false]
   cases h5:z6i (ByteArray.mk #[97,115,115,101,114,116]) ts with
   | true =>
    have l0:ts.tail.length≤2000:=by have:=z6q h5;omega
    simp only [if_true]
    refine TP.mono (H:=1) ?_ (by omega)
    refine TP.up (H:=0) (x:=fun n=>z7d (PS L ts.tail 0 i)>>=fun v=>some (v.1,v.2,true)) rfl (fun n=>by simp only [z0y,zb5 hl,h1,h2,h3,h4,h5,Option.bind_eq_bind,Option.bind_some,if_true,Bool.false_eq_true,if_false]) ?_
    exact zo5 (z025 l0)
   | false =>
   simp only [Bool.false_eq_true,if_false]
   cases h6:z6i (ByteArray.mk #[105,110,112,117,116]) ts with
   | true =>
    have l0:ts.tail.length≤2000:=by have:=z6q h6;omega
    simp only [if_true]
    refine TP.mono (H:=1) ?_ (by omega)
    refine TP.up (H:=0) (x:=fun n=>z7r (PS L ts.tail 0 i)>>=fun v=>some (v.1,v.2,true)) rfl (fun n=>by simp only [z0y,zb5 hl,h1,h2,h3,h4,h5,h6,Option.bind_eq_bind,Option.bind_some,if_true,Bool.false_eq_true,if_false]) ?_
    exact zo5 (z05p l0)
   | false =>
   simp only [Bool.false_eq_true,if_false]
   cases h7:sOf 1 ts with
   | true =>
    simp only [if_true]
    refine TP.mono (H:=1) ?_ (by omega)
    refine TP.up (H:=0) (x:=fun n=>z7e (PS L ts 0 i)>>=fun v=>some (v.1,v.2,true)) rfl (fun n=>by simp only [z0y,zb5 hl,of_P,h1,h2,h3,h4,h5,h6,h7,Option.bind_eq_bind,Option.bind_some,if_true,Bool.false_eq_true,if_false]) ?_
    exact zo5 (z026 hl)
   | false =>
    simp only [Bool.false_eq_true,if_false]
    intro n
    cases n with
    | zero=>exact .inr ⟨rfl,by omega⟩
    | succ n =>
     refine .inl ?_
     simp only [z0y,zb5 hl,of_P,h1,h2,h3,h4,h5,h6,h7,Option.bind_eq_bind,Option.bind_some,Bool.false_eq_true,if_false]
     rfl
  ·-- an arm
   simp only [sArm]
   refine TP.mono (H:=2*f+7) ?_ (by omega)
   refine TP.up (H:=2*f+6) (x:=fun n=>z0p (PS L ts 0 i)>>=fun v1=>z08 v1.1 (ByteArray.mk #[40])>>=fun v2=>z0p v2>>=fun v3=>z08 v3.1 (ByteArray.mk #[41])>>=fun v4=>z0t n v4>>=fun v5=>some (v5.1,(z1r.mk v1.2 v3.2 v5.2))) rfl (fun n=>rfl) ?_
   have er:∀ (a:z00) (s t:ByteArray),a.f_e≠0→∀ n,Sn n (2*f+6) (z0t n a>>=fun v5=>some (v5.1,(z1r.mk s t v5.2))) (bE a,.mk s t []):=fun a s t h n=>((zq8 h n).mono (by omega)).bind (f:=fun v5=>some (v5.1,(z1r.mk s t v5.2))) (.inl rfl)
   refine TP.bind (π':=Prod.fst) (mk':=fun v a=>(a,cArm v)) (zdt hl) (fun t r1 q1=>?_) (fun r c p hc he=>⟨(bE r.1,.mk r.2 nB []),he,fun n=>by
    have h:=z5k hc he
    simp only [zf4 h,zpa h,Option.bind_eq_bind,Option.bind_some]
    exact er r.1 r.2 nB h n⟩)
   have l1:=z56 (z4m q1).1 hl
   refine TP.bind (π':=Prod.fst) (mk':=fun v a=>(a,cArm v)) (z98 l1 _) (fun _ r2 q2=>?_) (fun r c p hc he=>⟨(bE r,.mk t nB []),he,fun n=>by
    have h:r.f_e≠0:=z5k hc he
    simp only [zf4 h,zpa h,Option.bind_eq_bind,Option.bind_some]
    exact er r t nB h n⟩)
   have l2:=z56 (z33 q2).1 l1
   refine TP.bind (π':=Prod.fst) (mk':=fun v a=>(a,cArm v)) (zdt l2) (fun w r3 q3=>?_) (fun r c p hc he=>⟨(bE r.1,.mk t r.2 []),he,fun n=>by
    have h:=z5k hc he
    simp only [zf4 h,Option.bind_eq_bind,Option.bind_some]
    exact er r.1 t r.2 h n⟩)
   have l3:=z56 (z4m q3).1 l2
   refine TP.bind (π':=Prod.fst) (mk':=fun v a=>(a,cArm v)) (z98 l3 _) (fun _ r4 q4=>?_) (fun r c p hc he=>⟨(bE r,.mk t w []),he,fun n=>er r t w (z5k hc he) n⟩)
   have l4:=z56 (z33 q4).1 l3
   refine TP.bind (π':=Prod.fst) (mk':=fun v a=>(a,cArm v)) (ih.block i r4 hi l4) (fun b r5 q5=>TP.pure (fun n=>rfl)) (fun r c p hc he=>⟨(r.1,.mk t w r.2),he,fun n=>.inl rfl⟩)
  ·-- arms
   simp only [zmc]
   refine TP.eq (y:=fun n=>if z6i (ByteArray.mk #[125]) ts then some (PS L ts 0 i,acc) else z1i n (PS L ts 0 i)>>=fun v=>app 56 acc [v.2]>>=fun v2=>AL n v.1 v2) ?_ (fun n=>z0a5 n acc)
   cases h1:z6i (ByteArray.mk #[125]) ts with
   | true =>
    simp only [if_true]
    exact TP.pure (fun n=>by simp [cA])
   | false =>
    simp only [Bool.false_eq_true,if_false]
    refine TP.mono (H:=2*f+6) ?_ (by omega)
    refine TP.bind (π':=Prod.fst) (mk':=fun v a=>(a,acc++cA v)) (ih.arm i ts hi hl) (fun x r ho=>?_) (fun r c p hc he=>⟨(r.1,acc++[r.2]),he,fun n=>.inl (by
     rw [z7v (by simp;omega)]
     exact AL_e (z5k hc he) n _)⟩)
    have q:=sf.arm _ _ _ _ ho
    have ql:=z56 q.1 hl
    refine TP.eq (y:=fun n=>AL n (PS L r 0 i) (acc++[cArm x])) ?_ (fun n=>?_)
    ·refine TP.map (g:=fun l=>x::l) (ih.arms i r (acc++[cArm x]) hi ql (by simp;omega)) (fun v a=>?_)
     simp [z03g]
    ·show (app 56 acc [cArm x]).bind _=_
     rw [z7v (by simp;omega)];rfl
  ·-- a block
   simp only [zh9]
   cases h1:(z6i (ByteArray.mk #[123]) ts&&decide (i=24)) with
   | true =>
    simp only [Bool.and_eq_true,decide_eq_true_eq] at h1
    simp only [if_true]
    obtain ⟨h1,h2⟩:=h1
    subst h2
    refine TP.mono (H:=1) ?_ (by omega)
    refine TP.up (H:=0) (x:=fun n=>some (⟨ts.map tokT,L,6,sAt L ts,0,24⟩,[])) rfl (fun n=>by
     simp only [z0t,zj9,h1,Option.bind_eq_bind,Option.bind_some,if_true,zo3]
     rfl) ?_
    exact TP.err (fun n=>rfl) (by decide) ⟨rfl,rfl⟩
   | false =>
    simp only [Bool.false_eq_true,if_false]
    have hj:(if z6i (ByteArray.mk #[123]) ts then some ((PS L ts 0 i).f_in==24) else some false)=some false:=by
     cases hs:z6i (ByteArray.mk #[123]) ts with
     | false=>rfl
     | true =>
      rw [hs] at h1
      have h1:decide (i=24)=false:=h1
      have:((i:Int)==24)=false:=by simp at h1 ⊢;omega
      show some ((i:Int)==24)=_
      rw [this]
    refine TP.mono (H:=2*f+8) ?_ (by omega)
    refine TP.up (H:=2*f+7) (x:=fun n=>z08 (PS L ts 0 i) (ByteArray.mk #[123])>>=fun v3=>z1b n (z00.mk v3.f_l v3.f_end v3.f_e v3.f_at v3.f_deep (IntKind.i64.wrap (v3.f_in+1)))>>=fun v4=>z08 (z00.mk v4.1.f_l v4.1.f_end v4.1.f_e v4.1.f_at v4.1.f_deep (IntKind.i64.wrap (v4.1.f_in - 1))) (ByteArray.mk #[125])>>=fun v5=>some (v5,v4.2)) rfl (fun n=>by
     simp only [z0t,zj9,Option.bind_eq_bind,Option.bind_some,hj,Bool.false_eq_true,if_false]) ?_
    refine TP.bind (π':=Prod.fst) (mk':=mkL) (z98 hl _) (fun _ r1 q1=>?_) (fun r c p hc he=>⟨(bE r,[]),he,fun n=>by
     have h:r.f_e≠0:=z5k hc he
     refine ((ztl (a:=⟨r.f_l,r.f_end,r.f_e,r.f_at,r.f_deep,IntKind.i64.wrap (r.f_in+1)⟩) h n).mono (by omega)).bind (f:=fun v4:z00 × List z05=>z08 (z00.mk v4.1.f_l v4.1.f_end v4.1.f_e v4.1.f_at v4.1.f_deep (IntKind.i64.wrap (v4.1.f_in - 1))) (ByteArray.mk #[125])>>=fun v5=>some (v5,v4.2)) (.inl ?_)
     show (z08 (bE r) (ByteArray.mk #[125])).bind _=_
     rw [zf4 (a:=bE r) h];rfl⟩)
    have l1:=z56 (z33 q1).1 hl
    have hi':i+1≤24:=by
     have hs:z6i (ByteArray.mk #[123]) ts=true:=by
      unfold zan at q1
      split at q1
      ·assumption
      ·cases q1
     rw [hs] at h1
     have h1:decide (i=24)=false:=h1
     simp at h1;omega
    have w1:IntKind.i64.wrap ((PS L r1 0 i).f_in+1)=((i+1:Nat):Int):=by
     show IntKind.i64.wrap ((i:Int)+1)=_
     rw [w64 (by omega) (by omega)];omega
    have hsl:TP L 0 ((i+1:Nat):Int) Prod.fst mkL (2*f+7) (fun n=>z1b n (PS L r1 0 ((i+1:Nat):Int))) (zh8 L f (i+1) r1):=TP.up (x:=fun n=>SL n (PS L r1 0 ((i+1:Nat):Int)) []) rfl (fun n=>rfl) (by
     have:=ih.stmts (i+1) r1 [] hi' l1 (by simpa using l1)
     simpa using this)
    refine TP.eq (y:=fun n=>z1b n (PS L r1 0 ((i+1:Nat):Int))>>=fun v4=>z08 (z00.mk v4.1.f_l v4.1.f_end v4.1.f_e v4.1.f_at v4.1.f_deep (IntKind.i64.wrap (v4.1.f_in - 1))) (ByteArray.mk #[125])>>=fun v5=>some (v5,v4.2)) ?_ (fun n=>by
     show z1b n ⟨r1.map tokT,L,0,0,0,IntKind.i64.wrap ((PS L r1 0 i).f_in+1)⟩>>=_=_
     rw [w1];rfl)
    refine TP.bind (π':=Prod.fst) (mk':=mkL) hsl (fun b r2 q2=>?_) (fun r c p hc he=>⟨(⟨r.1.f_l,r.1.f_end,r.1.f_e,r.1.f_at,r.1.f_deep,IntKind.i64.wrap (r.1.f_in - 1)⟩,r.2),he,fun n=>.inl (by
     rw [zf4 (a:=⟨r.1.f_l,r.1.f_end,r.1.f_e,r.1.f_at,r.1.f_deep,IntKind.i64.wrap (r.1.f_in - 1)⟩) (z5k hc he)];rfl)⟩)
    have l2:=z56 (sf.stmts _ _ _ _ q2) l1
    have w2:IntKind.i64.wrap ((PS L r2 0 ((i+1:Nat):Int)).f_in - 1)=(i:Int):=by
     show IntKind.i64.wrap (((i+1:Nat):Int) - 1)=_
     rw [w64 (by omega) (by omega)];omega
    refine TP.eq (y:=fun n=>z08 (PS L r2 0 i) (ByteArray.mk #[125])>>=fun v5=>some (v5,cL b)) ?_ (fun n=>by
     show z08 ⟨r2.map tokT,L,0,0,0,IntKind.i64.wrap ((PS L r2 0 ((i+1:Nat):Int)).f_in - 1)⟩ _>>=_=_
     rw [w2];rfl)
    exact TP.bind (π':=Prod.fst) (mk':=mkL) (z98 l2 _) (fun _ r3 q3=>TP.pure (fun n=>rfl)) (fun r c p hc he=>⟨(r,cL b),he,fun n=>.inl rfl⟩)
def zh3 {α:Type} (more:List Tok→Option (Rs α)):Nat→List Tok→Rs (List α)
 | 0,_=>.out
 | f+1,ts=>match more ts with
  | none=>.ok [] ts
  | some o=>o.bind fun v r=>(zh3 more f r).bind fun l r'=>.ok (v::l) r'
structure More {α:Type} (more:List Tok→Option (Rs α)):Prop where
 suf:∀ ts v r,more ts=some (.ok v r)→r <:+ ts∧r.length<ts.length
 ne:∀ ts,more ts≠some .out
theorem zfs {α:Type} {more:List Tok→Option (Rs α)} (m:More more):∀ f ts v r,zh3 more f ts=.ok v r→r <:+ ts:=by
 intro f
 induction f with
 | zero=>intro ts v r h;cases h
 | succ f ih =>
  intro ts v r h
  simp only [zh3] at h
  split at h
  ·injection h with _ h;subst h;exact List.suffix_refl _
  ·rename_i o ho
   obtain ⟨s,r1,h1,h0⟩:=bind_ok h
   obtain ⟨l,r2,h2,h3⟩:=bind_ok h0
   injection h3 with _ h3;subst h3;subst h1
   exact (ih _ _ _ h2).trans (m.suf _ _ _ ho).1
theorem zmf {α:Type} {more:List Tok→Option (Rs α)} (m:More more):∀ f ts,ts.length+1≤f→zh3 more f ts≠.out:=by
 intro f
 induction f with
 | zero=>intro ts h;omega
 | succ f ih =>
  intro ts hf h
  simp only [zh3] at h
  split at h
  ·cases h
  ·rename_i o ho
   rcases z1c h with h0|⟨s,r1,h1,h0⟩
   ·subst h0;exact m.ne _ ho
   ·subst h1
    have:=(m.suf _ _ _ ho).2
    rcases z1c h0 with h2|⟨l,r2,h2,h3⟩
    ·exact ih _ (by omega) h2
    ·cases h3
abbrev T7 (β:Type):=List z0n × Int × Int × Int × Int × Int × List β
def tp7 {β:Type} (a:z00) (l:List β):T7 β:=(a.f_l,a.f_end,a.f_e,a.f_at,a.f_deep,a.f_in,l)
noncomputable def LF {β O:Type} (body:T7 β→Option (Sum (T7 β) (Sum O (T7 β)))) (a:z00) (l:List β):Option (z00 × List β) :=
 iter body (tp7 a l)>>=Sum.elim (fun _=>none) (fun j1=>some (⟨j1.1,j1.2.1,j1.2.2.1,j1.2.2.2.1,j1.2.2.2.2.1,j1.2.2.2.2.2.1⟩,j1.2.2.2.2.2.2))
section
variable {β O:Type} {body:T7 β→Option (Sum (T7 β) (Sum O (T7 β)))} {a:z00} {l:List β}
theorem zmq (h:body (tp7 a l)=some (.inr (.inr (tp7 a l)))):LF body a l=some (a,l):=by unfold LF;rw [z4l h];rfl
theorem z05q {x:Option (z00 × List β)} (h:body (tp7 a l)=x>>=fun v=>some (.inl (tp7 v.1 v.2))):LF body a l=x>>=fun v=>LF body v.1 v.2:=by
 unfold LF
 rw [zce,h]
 simp only [Option.bind_eq_bind,Option.bind_assoc]
 congr 1
theorem zv8 {ρ:Type} (k:z00 × List β→Option ρ):iter body (tp7 a l)>>=Sum.elim (fun _=>none) (fun j1=>k (⟨j1.1,j1.2.1,j1.2.2.1,j1.2.2.2.1,j1.2.2.2.2.1,j1.2.2.2.2.2.1⟩,j1.2.2.2.2.2.2))=LF body a l>>=k:=by
 unfold LF
 simp only [Option.bind_eq_bind,Option.bind_assoc]
 congr 1;funext o
 cases o <;> rfl
end
theorem zpb {β γ O:Type} {L d i:Int} {body:T7 β→Option (Sum (T7 β) (Sum O (T7 β)))} {more:List Tok→Option (Rs γ)} {cv:γ→β} (m:More more)
  (h0:∀ ts l,ts.length≤2000→more ts=none→body (tp7 (PS L ts d i) l)=some (.inr (.inr (tp7 (PS L ts d i) l))))
  (h1:∀ ts o,ts.length≤2000→more ts=some o→∃ x,TP L d i Prod.fst (fun v a=>(a,cv v)) 0 (fun _=>x) o∧∀ l:List β,l.length≤2000→body (tp7 (PS L ts d i) l)=x>>=fun v=>some (.inl (tp7 v.1 (l++[v.2]))))
  (h2:∀ a l,a.f_e≠0→body (tp7 a l)=some (.inr (.inr (tp7 a l)))) :
  ∀ f ts (l:List β),ts.length≤2000→l.length+ts.length≤2000→TP L d i Prod.fst (fun (v:List γ) a=>(a,l++v.map cv)) 0 (fun _=>LF body (PS L ts d i) l) (zh3 more f ts):=by
 intro f
 induction f with
 | zero=>intro ts l _ _;exact zic
 | succ f ih =>
  intro ts l ht hl
  simp only [zh3]
  cases hm:more ts with
  | none=>exact TP.pure (fun n=>by rw [zmq (h0 ts l ht hm)];simp)
  | some o =>
   obtain ⟨x,hx,hb⟩:=h1 ts o ht hm
   refine TP.eq (y:=fun _=>x>>=fun v=>LF body v.1 (l++[v.2])) ?_ (fun n=>by
    rw [z05q (x:=x>>=fun v=>some (v.1,l++[v.2])) (by rw [hb l (by omega)];simp only [Option.bind_eq_bind,Option.bind_assoc,Option.bind_some])]
    simp only [Option.bind_eq_bind,Option.bind_assoc,Option.bind_some])
   refine TP.bind (π':=Prod.fst) (mk':=fun (v:List γ) a=>(a,l++v.map cv)) hx (fun v r ho=>?_) (fun r c p hc he=>⟨(r.1,l++[r.2]),he,fun n=>.inl (zmq (h2 r.1 _ (z5k hc he)))⟩)
   subst ho
   have q:=m.suf _ _ _ hm
   refine TP.map (g:=fun w=>v::w) (ih r (l++[cv v]) (z56 q.1 ht) (by simp;omega)) (fun w a=>by simp)
section
variable (L:Int)
def zzz:List ByteArray:=[(ByteArray.mk #[98,108,111,99,107]),(ByteArray.mk #[100,114,111,112]),(ByteArray.mk #[108,111,115,115,121])]
def mTag (ts:List Tok):Option (Rs ByteArray):=if z6i (ByteArray.mk #[44]) ts then some (zec L ts.tail) else none
def ztm (ts:List Tok):Rs zbi:=(zec L ts).bind fun n r1=>match z9z zzz r1 with
 | none=>.er 5 (sAt L r1)
 | some j=>(sNum L r1.tail).bind fun z r2=>(zan L (ByteArray.mk #[102,114,111,109]) r2).bind fun _ r3=>(zec L r3).bind fun a r4=>(zan L (ByteArray.mk #[116,111]) r4).bind fun _ r5=>(zec L r5).bind fun b r6 =>
  (zan L (ByteArray.mk #[123]) r6).bind fun _ r7=>(zec L r7).bind fun t r8=>(zh3 (mTag L) (r8.length+1) r8).bind fun l r9=>(zan L (ByteArray.mk #[125]) r9).bind fun _ r10=>(zan L (ByteArray.mk #[59]) r10).bind fun _ r11=>.ok ⟨n,(j:Int),z,a,b,t::l⟩ r11
def ztn (ts:List Tok):Rs z3y:=(sNum L ts).bind fun a r1=>(zec L r1).bind fun t r2=>(sNum L r2).bind fun b r3=>(zan L (ByteArray.mk #[59]) r3).bind fun _ r4=>.ok ⟨a,t,b⟩ r4
def zto (ts:List Tok):Option (Rs z3y):=if z6i (ByteArray.mk #[125]) ts then none else some (ztn L ts)
def ztp (ts:List Tok):Rs zfa:=(zec L ts).bind fun n r1=>(zan L (ByteArray.mk #[123]) r1).bind fun _ r2=>(zh3 (zto L) (r2.length+1) r2).bind fun l r3=>(zan L (ByteArray.mk #[125]) r3).bind fun _ r4=>.ok ⟨n,l⟩ r4
def mVar (ts:List Tok):Option (Rs ByteArray):=if z6i (ByteArray.mk #[118,97,114]) ts then some ((zec L ts.tail).bind fun n r1=>(zan L (ByteArray.mk #[59]) r1).bind fun _ r2=>.ok n r2) else none
def z000 (ts:List Tok):Rs (List z1n):=zh8 L (3*ts.length+2) 0 ts
def ztq (ts:List Tok):Rs z8p:=(zec L ts).bind fun n r1=>(zan L (ByteArray.mk #[123]) r1).bind fun _ r2=>(zh3 (mVar L) (r2.length+1) r2).bind fun l r3=>(z000 L r3).bind fun b r4=>(zan L (ByteArray.mk #[125]) r4).bind fun _ r5=>.ok ⟨n,l,b⟩ r5
def ztr (ts:List Tok):Option (Rs zbi):=if z6i (ByteArray.mk #[99,104,97,110]) ts then some (ztm L ts.tail) else none
def zts (ts:List Tok):Option (Rs zfa):=if z6i (ByteArray.mk #[114,117,108,101]) ts then some (ztp L ts.tail) else none
def ztt (ts:List Tok):Option (Rs z8p):=if z6i (ByteArray.mk #[112,114,111,99]) ts then some (ztq L ts.tail) else none
def sSys (ts:List Tok):Rs z63:=(zh3 (ztr L) (ts.length+1) ts).bind fun c r1=>(zh3 (zts L) (r1.length+1) r1).bind fun r r2=>(zh3 (ztt L) (r2.length+1) r2).bind fun p r3=>.ok ⟨c,r,p⟩ r3
def sAll (ts:List Tok):Rs z63:=(sSys L ts).bind fun v r=>match r with|[]=>.ok v []|t::_=>.er 5 (t.at_:Int)
end
section
variable {L:Int}
theorem zv9:More (mTag L) where
 suf:=fun ts v r h=>by
  unfold mTag at h;split at h
  ·rename_i hs;injection h with h;exact zbn hs (z4m h).1
  ·cases h
 ne:=fun ts h=>by
  unfold mTag at h;split at h
  ·injection h with h;exact zao h
  ·cases h
theorem z027 {ts r:List Tok} {v:zbi} (h:ztm L ts=.ok v r):r <:+ ts:=by
 unfold ztm at h
 obtain ⟨_,r1,h1,h⟩:=bind_ok h
 split at h
 ·cases h
 rename_i j hj
 obtain ⟨_,r2,h2,h⟩:=bind_ok h
 obtain ⟨_,r3,h3,h⟩:=bind_ok h
 obtain ⟨_,r4,h4,h⟩:=bind_ok h
 obtain ⟨_,r5,h5,h⟩:=bind_ok h
 obtain ⟨_,r6,h6,h⟩:=bind_ok h
 obtain ⟨_,r7,h7,h⟩:=bind_ok h
 obtain ⟨_,r8,h8,h⟩:=bind_ok h
 obtain ⟨_,r9,h9,h⟩:=bind_ok h
 obtain ⟨_,r10,h10,h⟩:=bind_ok h
 obtain ⟨_,r11,h11,h⟩:=bind_ok h
 injection h with _ h;subst h
 exact (z33 h11).1.trans ((z33 h10).1.trans ((zfs zv9 _ _ _ _ h9).trans ((z4m h8).1.trans ((z33 h7).1.trans ((z4m h6).1.trans ((z33 h5).1.trans ((z4m h4).1.trans ((z33 h3).1.trans ((zib h2).1.trans ((List.tail_suffix r1).trans (z4m h1).1))))))))))
theorem z05r {ts:List Tok}:ztm L ts≠.out:=fun h=>by
 unfold ztm at h
 rcases z1c h with h|⟨_,_,_,h⟩
 ·exact zao h
 split at h
 ·cases h
 rcases z1c h with h|⟨_,_,_,h⟩
 ·exact zv6 h
 rcases z1c h with h|⟨_,_,_,h⟩
 ·exact z6y h
 rcases z1c h with h|⟨_,_,_,h⟩
 ·exact zao h
 rcases z1c h with h|⟨_,_,_,h⟩
 ·exact z6y h
 rcases z1c h with h|⟨_,_,_,h⟩
 ·exact zao h
 rcases z1c h with h|⟨_,_,_,h⟩
 ·exact z6y h
 rcases z1c h with h|⟨_,_,_,h⟩
 ·exact zao h
 rcases z1c h with h|⟨_,_,_,h⟩
 ·exact zmf zv9 _ _ (Nat.le_refl _) h
 rcases z1c h with h|⟨_,_,_,h⟩
 ·exact z6y h
 rcases z1c h with h|⟨_,_,_,h⟩
 ·exact z6y h
 ·cases h
theorem z028 {ts r:List Tok} {v:z3y} (h:ztn L ts=.ok v r):r <:+ ts∧r.length<ts.length:=by
 unfold ztn at h
 obtain ⟨_,r1,h1,h⟩:=bind_ok h
 obtain ⟨_,r2,h2,h⟩:=bind_ok h
 obtain ⟨_,r3,h3,h⟩:=bind_ok h
 obtain ⟨_,r4,h4,h⟩:=bind_ok h
 injection h with _ h;subst h
 exact ztk ((z33 h4).1.trans ((zib h3).1.trans (z4m h2).1)) (zib h1).1 (zib h1).2
theorem z05s {ts:List Tok}:ztn L ts≠.out:=fun h=>by
 unfold ztn at h
 rcases z1c h with h|⟨_,_,_,h⟩
 ·exact zv6 h
 rcases z1c h with h|⟨_,_,_,h⟩
 ·exact zao h
 rcases z1c h with h|⟨_,_,_,h⟩
 ·exact zv6 h
 rcases z1c h with h|⟨_,_,_,h⟩
 ·exact z6y h
 ·cases h
theorem zq9:More (zto L) where
 suf:=fun ts v r h=>by
  unfold zto at h;split at h
  ·cases h
  ·injection h with h;exact z028 h
 ne:=fun ts h=>by
  unfold zto at h;split at h
  ·cases h
  ·injection h with h;exact z05s h
theorem z029 {ts r:List Tok} {v:zfa} (h:ztp L ts=.ok v r):r <:+ ts:=by
 unfold ztp at h
 obtain ⟨_,r1,h1,h⟩:=bind_ok h
 obtain ⟨_,r2,h2,h⟩:=bind_ok h
 obtain ⟨_,r3,h3,h⟩:=bind_ok h
 obtain ⟨_,r4,h4,h⟩:=bind_ok h
 injection h with _ h;subst h
 exact (z33 h4).1.trans ((zfs zq9 _ _ _ _ h3).trans ((z33 h2).1.trans (z4m h1).1))
theorem z05t {ts:List Tok}:ztp L ts≠.out:=fun h=>by
 unfold ztp at h
 rcases z1c h with h|⟨_,_,_,h⟩
 ·exact zao h
 rcases z1c h with h|⟨_,_,_,h⟩
 ·exact z6y h
 rcases z1c h with h|⟨_,_,_,h⟩
 ·exact zmf zq9 _ _ (Nat.le_refl _) h
 rcases z1c h with h|⟨_,_,_,h⟩
 ·exact z6y h
 ·cases h
theorem zva:More (mVar L) where
 suf:=fun ts v r h=>by
  unfold mVar at h;split at h
  ·rename_i hs;injection h with h
   obtain ⟨_,r1,h1,h⟩:=bind_ok h
   obtain ⟨_,r2,h2,h⟩:=bind_ok h
   injection h with _ h;subst h
   exact zbn hs ((z33 h2).1.trans (z4m h1).1)
  ·cases h
 ne:=fun ts h=>by
  unfold mVar at h;split at h
  ·injection h with h
   rcases z1c h with h|⟨_,_,_,h⟩
   ·exact zao h
   rcases z1c h with h|⟨_,_,_,h⟩
   ·exact z6y h
   ·cases h
  ·cases h
theorem zvb {ts r:List Tok} {v:List z1n} (h:z000 L ts=.ok v r):r <:+ ts:=(sufS L _).stmts _ _ _ _ h
theorem z05u {ts:List Tok}:z000 L ts≠.out:=(fuS L _).stmts _ _ (Nat.le_refl _)
theorem z02a {ts r:List Tok} {v:z8p} (h:ztq L ts=.ok v r):r <:+ ts:=by
 unfold ztq at h
 obtain ⟨_,r1,h1,h⟩:=bind_ok h
 obtain ⟨_,r2,h2,h⟩:=bind_ok h
 obtain ⟨_,r3,h3,h⟩:=bind_ok h
 obtain ⟨_,r4,h4,h⟩:=bind_ok h
 obtain ⟨_,r5,h5,h⟩:=bind_ok h
 injection h with _ h;subst h
 exact (z33 h5).1.trans ((zvb h4).trans ((zfs zva _ _ _ _ h3).trans ((z33 h2).1.trans (z4m h1).1)))
theorem z05v {ts:List Tok}:ztq L ts≠.out:=fun h=>by
 unfold ztq at h
 rcases z1c h with h|⟨_,_,_,h⟩
 ·exact zao h
 rcases z1c h with h|⟨_,_,_,h⟩
 ·exact z6y h
 rcases z1c h with h|⟨_,_,_,h⟩
 ·exact zmf zva _ _ (Nat.le_refl _) h
 rcases z1c h with h|⟨_,_,_,h⟩
 ·exact z05u h
 rcases z1c h with h|⟨_,_,_,h⟩
 ·exact z6y h
 ·cases h
theorem ztu:More (ztr L) where
 suf:=fun ts v r h=>by
  unfold ztr at h;split at h
  ·rename_i hs;injection h with h;exact zbn hs (z027 h)
  ·cases h
 ne:=fun ts h=>by
  unfold ztr at h;split at h
  ·injection h with h;exact z05r h
  ·cases h
theorem ztv:More (zts L) where
 suf:=fun ts v r h=>by
  unfold zts at h;split at h
  ·rename_i hs;injection h with h;exact zbn hs (z029 h)
  ·cases h
 ne:=fun ts h=>by
  unfold zts at h;split at h
  ·injection h with h;exact z05t h
  ·cases h
theorem z001:More (ztt L) where
 suf:=fun ts v r h=>by
  unfold ztt at h;split at h
  ·rename_i hs;injection h with h;exact zbn hs (z02a h)
  ·cases h
 ne:=fun ts h=>by
  unfold ztt at h;split at h
  ·injection h with h;exact z05v h
  ·cases h
theorem z03h {ts:List Tok}:sSys L ts≠.out:=fun h=>by
 unfold sSys at h
 rcases z1c h with h|⟨_,_,_,h⟩
 ·exact zmf ztu _ _ (Nat.le_refl _) h
 rcases z1c h with h|⟨_,_,_,h⟩
 ·exact zmf ztv _ _ (Nat.le_refl _) h
 rcases z1c h with h|⟨_,_,_,h⟩
 ·exact zmf z001 _ _ (Nat.le_refl _) h
 ·cases h
end
section
variable {a:z00} (h:a.f_e≠0)
include h
theorem z02b:z25 a [(ByteArray.mk #[98,108,111,99,107]),(ByteArray.mk #[100,114,111,112]),(ByteArray.mk #[108,111,115,115,121])]=some (a,-1):=zzu h _ (by decide)
theorem z02c:z7s a=some (a,[]):=Sn.unf fun n=>ztl h n
theorem z03i (l:List ByteArray):z2j (tp7 a l)=some (.inr (.inr (tp7 a l))):=by
 unfold z2j
 show (z0r a _>>=_)=_
 rw [zia h];rfl
theorem z03j (l:List z5d):z40 (tp7 a l)=some (.inr (.inr (tp7 a l))):=by
 unfold z40
 rw [if_neg (by simpa [tp7] using h)];rfl
theorem z03k (l:List ByteArray):z41 (tp7 a l)=some (.inr (.inr (tp7 a l))):=by
 unfold z41
 show (z0r a _>>=_)=_
 rw [zia h];rfl
theorem z08k (l:List z29):z7f (tp7 a l)=some (.inr (.inr (tp7 a l))):=by
 unfold z7f
 show (z0r a _>>=_)=_
 rw [zia h];rfl
theorem z03l (l:List z3e):z7g (tp7 a l)=some (.inr (.inr (tp7 a l))):=by
 unfold z7g
 show (z0r a _>>=_)=_
 rw [zia h];rfl
theorem z002 (l:List z3k):z6j (tp7 a l)=some (.inr (.inr (tp7 a l))):=by
 unfold z6j
 show (z0r a _>>=_)=_
 rw [zia h];rfl
theorem z08l (l:List ByteArray):LF z2j a l=some (a,l):=zmq (z03i h l)
theorem z08m (l:List z5d):LF z40 a l=some (a,l):=zmq (z03j h l)
theorem z08n (l:List ByteArray):LF z41 a l=some (a,l):=zmq (z03k h l)
end
theorem eQ {a:z00} (h:a.f_e≠0):(∀ w,z08 a w=some a)∧z0p a=some (a,ByteArray.mk #[])∧z2h a=some (a,0)∧(∀ c,z2q a c=some a)∧(∀ l,LF z2j a l=some (a,l))∧(∀ l,LF z40 a l=some (a,l))∧(∀ l,LF z41 a l=some (a,l))∧z7s a=some (a,[]):=⟨zf4 h,zpa h,z08c h,zp9 h,z08l h,z08m h,z08n h,z02c h⟩
theorem z5u (x:ByteArray):app 16 [] [x]=some [x]:=rfl
theorem zap (a:z00):z00.mk a.f_l a.f_end a.f_e a.f_at a.f_deep a.f_in=a:=rfl
instance:Inhabited z5d:=⟨⟨0,nB,0⟩⟩
instance:Inhabited z29:=⟨⟨nB,0,0,nB,nB,[]⟩⟩
instance:Inhabited z3e:=⟨⟨nB,[]⟩⟩
instance:Inhabited z3k:=⟨⟨nB,[],[]⟩⟩
theorem z05w (a:z00):z6t a=z0p a>>=fun v1=>z25 v1.1 [(ByteArray.mk #[98,108,111,99,107]),(ByteArray.mk #[100,114,111,112]),(ByteArray.mk #[108,111,115,115,121])]>>=fun v2 =>
  if (decide (v2.2<0)) then (z2q v2.1 5>>=fun v3=>some (v3,(z29.mk v1.2 v2.2 0 (ByteArray.mk #[]) (ByteArray.mk #[]) [])))
  else (z2h v2.1>>=fun v4=>z08 v4.1 (ByteArray.mk #[102,114,111,109])>>=fun v5=>z0p v5>>=fun v6=>z08 v6.1 (ByteArray.mk #[116,111])>>=fun v7=>z0p v7>>=fun v8=>z08 v8.1 (ByteArray.mk #[123])>>=fun v9 =>
   z0p v9>>=fun v10=>app 16 [] [v10.2]>>=fun v11=>LF z2j v10.1 v11>>=fun w=>z08 w.1 (ByteArray.mk #[125])>>=fun v15=>z08 v15 (ByteArray.mk #[59])>>=fun v16=>some (v16,(z29.mk v1.2 v2.2 v4.2 v6.2 v8.2 w.2))):=by
 simp only [← zv8];rfl
theorem z05x (a:z00):z83 a=z0p a>>=fun v1=>z08 v1.1 (ByteArray.mk #[123])>>=fun v2=>LF z40 v2 []>>=fun w=>z08 w.1 (ByteArray.mk #[125])>>=fun v9=>some (v9,(z3e.mk v1.2 w.2)):=by
 simp only [← zv8];rfl
theorem z05y (a:z00):z86 a=z0p a>>=fun v1=>z08 v1.1 (ByteArray.mk #[123])>>=fun v2=>LF z41 v2 []>>=fun w=>z7s w.1>>=fun v7=>z08 v7.1 (ByteArray.mk #[125])>>=fun v8=>some (v8,(z3k.mk v1.2 w.2 v7.2)):=by
 simp only [← zv8];rfl
abbrev mkCh:zbi→z00→z00 × z29:=fun v a=>(a,cCh v)
abbrev mkMo:z3y→z00→z00 × z5d:=fun v a=>(a,cMo v)
abbrev mkRu:zfa→z00→z00 × z3e:=fun v a=>(a,cRu v)
abbrev mkPr:z8p→z00→z00 × z3k:=fun v a=>(a,cPr v)
section
variable {L i:Int}
theorem z08o {ts:List Tok} {t:ByteArray} (hl:ts.length+1≤2000):TP L 0 i Prod.fst (fun v a=>(a,[t]++v.map id)) 0 (fun _=>LF z2j (PS L ts 0 i) [t]) (zh3 (mTag L) (ts.length+1) ts):=by
 refine zpb (cv:=id) zv9 (fun ts l ht hm=>?_) (fun ts o ht hm=>?_) (fun a l h=>z03i h l) _ ts [t] (by omega) (by simp;omega)
 ·unfold mTag at hm
  cases hs:z6i (ByteArray.mk #[44]) ts with
  | true=>rw [hs] at hm;cases hm
  | false =>
   unfold z2j
   show (z0r (PS L ts 0 i) _>>=_)=_
   rw [zb5 ht,hs];rfl
 ·unfold mTag at hm
  cases hs:z6i (ByteArray.mk #[44]) ts with
  | false=>rw [hs] at hm;cases hm
  | true =>
   rw [hs] at hm;injection hm with hm;subst hm
   have l0:ts.tail.length≤2000:=by have:=z6q hs;omega
   refine ⟨z0p (PS L ts.tail 0 i),zdt l0,fun l hll=>?_⟩
   unfold z2j
   show (z0r (PS L ts 0 i) _>>=_)=_
   rw [zb5 ht,hs]
   simp only [Option.bind_eq_bind,Option.bind_some,if_true]
   congr 1;funext v
   show (app 16 l [v.2]).bind _=_
   rw [z7v (by simp;omega)];rfl
theorem z08p {ts:List Tok} {H:Nat} (hl:ts.length≤2000):TP L 0 i Prod.fst mkCh H (fun _=>z6t (PS L ts 0 i)) (ztm L ts):=by
 refine TP.eq (y:=fun _=>_) ?_ (fun _=>z05w _)
 unfold ztm
 refine TP.bind (π':=Prod.fst) (mk':=mkCh) (zdt hl) (fun m r1 h1=>?_) (fun r c p hc he=>z4u (by simp only [z02b (a:=r.1) (z5k hc he),zp9 (a:=r.1) (z5k hc he),Option.bind_eq_bind,Option.bind_some,neg1,if_true];rfl) ⟨he.1,he.2⟩)
 have l1:=z56 (z4m h1).1 hl
 have hw:=zq5 (L:=L) (d:=0) (i:=i) l1 zzz (by decide)
 cases hs:z9z zzz r1 with
 | none =>
  rw [hs] at hw
  refine TP.err (r:=((⟨r1.map tokT,L,5,sAt L r1,0,i⟩:z00),⟨m,-1,0,nB,nB,[]⟩)) (fun n=>?_) (by decide) ⟨rfl,rfl⟩
  show (z25 (PS L r1 0 i) zzz).bind _=_
  rw [hw]
  simp only [Option.bind_some,neg1,if_true,zo3,Option.bind_eq_bind]
 | some j =>
  rw [hs] at hw
  have q1:decide (((j:Nat):Int)<0)=false:=by simp
  have l2:r1.tail.length≤2000:=by have:=(zbh hs).1;omega
  refine TP.eq (y:=fun _=>z2h (PS L r1.tail 0 i)>>=fun v4=>z08 v4.1 (ByteArray.mk #[102,114,111,109])>>=fun v5=>z0p v5>>=fun v6=>z08 v6.1 (ByteArray.mk #[116,111])>>=fun v7=>z0p v7>>=fun v8=>z08 v8.1 (ByteArray.mk #[123])>>=fun v9 =>
   z0p v9>>=fun v10=>app 16 [] [v10.2]>>=fun v11=>LF z2j v10.1 v11>>=fun w=>z08 w.1 (ByteArray.mk #[125])>>=fun v15=>z08 v15 (ByteArray.mk #[59])>>=fun v16=>some (v16,(z29.mk m (j:Int) v4.2 v6.2 v8.2 w.2))) ?_ (fun n=>by
   show (z25 (PS L r1 0 i) zzz).bind _=_
   rw [hw]
   simp only [Option.bind_some,q1,Bool.false_eq_true,if_false])
  refine TP.bind (π':=Prod.fst) (mk':=mkCh) (z01w l2) (fun z r2 h2=>?_) (fun r c p hc he=>z4u (by simp only [eQ (a:=r.1) (z5k hc he),z5u,zap,Option.bind_eq_bind,Option.bind_some];rfl) ⟨he.1,he.2⟩)
  have l2:=z56 (zib h2).1 l2
  refine TP.bind (π':=Prod.fst) (mk':=mkCh) (z98 l2 _) (fun _ r3 h3=>?_) (fun r c p hc he=>z4u (by simp only [eQ (a:=r) (z5k hc he),z5u,zap,Option.bind_eq_bind,Option.bind_some];rfl) ⟨he.1,he.2⟩)
  have l3:=z56 (z33 h3).1 l2
  refine TP.bind (π':=Prod.fst) (mk':=mkCh) (zdt l3) (fun a r4 h4=>?_) (fun r c p hc he=>z4u (by simp only [eQ (a:=r.1) (z5k hc he),z5u,zap,Option.bind_eq_bind,Option.bind_some];rfl) ⟨he.1,he.2⟩)
  have l4:=z56 (z4m h4).1 l3
  refine TP.bind (π':=Prod.fst) (mk':=mkCh) (z98 l4 _) (fun _ r5 h5=>?_) (fun r c p hc he=>z4u (by simp only [eQ (a:=r) (z5k hc he),z5u,zap,Option.bind_eq_bind,Option.bind_some];rfl) ⟨he.1,he.2⟩)
  have l5:=z56 (z33 h5).1 l4
  refine TP.bind (π':=Prod.fst) (mk':=mkCh) (zdt l5) (fun b r6 h6=>?_) (fun r c p hc he=>z4u (by simp only [eQ (a:=r.1) (z5k hc he),z5u,zap,Option.bind_eq_bind,Option.bind_some];rfl) ⟨he.1,he.2⟩)
  have l6:=z56 (z4m h6).1 l5
  refine TP.bind (π':=Prod.fst) (mk':=mkCh) (z98 l6 _) (fun _ r7 h7=>?_) (fun r c p hc he=>z4u (by simp only [eQ (a:=r) (z5k hc he),z5u,zap,Option.bind_eq_bind,Option.bind_some];rfl) ⟨he.1,he.2⟩)
  have l7:=z56 (z33 h7).1 l6
  refine TP.bind (π':=Prod.fst) (mk':=mkCh) (zdt l7) (fun t r8 h8=>?_) (fun r c p hc he=>z4u (by simp only [eQ (a:=r.1) (z5k hc he),z5u,zap,Option.bind_eq_bind,Option.bind_some];rfl) ⟨he.1,he.2⟩)
  have z8:=(z4m h8).2
  have l8:=z56 (z4m h8).1 l7
  refine TP.eq (y:=fun _=>LF z2j (PS L r8 0 i) [t]>>=fun w=>z08 w.1 (ByteArray.mk #[125])>>=fun v15=>z08 v15 (ByteArray.mk #[59])>>=fun v16=>some (v16,(z29.mk m (j:Int) z a b w.2))) ?_ (fun n=>rfl)
  refine TP.bind (π':=Prod.fst) (mk':=mkCh) ((z08o (t:=t) (by omega)).mono (Nat.zero_le _)) (fun l r9 h9=>?_) (fun r c p hc he=>z4u (by simp only [eQ (a:=r.1) (z5k hc he),z5u,zap,Option.bind_eq_bind,Option.bind_some];rfl) ⟨he.1,he.2⟩)
  have l9:=z56 (zfs zv9 _ _ _ _ h9) l8
  refine TP.bind (π':=Prod.fst) (mk':=mkCh) (z98 l9 _) (fun _ r10 h10=>?_) (fun r c p hc he=>z4u (by simp only [eQ (a:=r) (z5k hc he),z5u,zap,Option.bind_eq_bind,Option.bind_some];rfl) ⟨he.1,he.2⟩)
  have l10:=z56 (z33 h10).1 l9
  refine TP.bind (π':=Prod.fst) (mk':=mkCh) (z98 l10 _) (fun _ r11 h11=>TP.pure (fun n=>?_)) (fun r c p hc he=>z4u (by simp only [eQ (a:=r) (z5k hc he),z5u,zap,Option.bind_eq_bind,Option.bind_some];rfl) ⟨he.1,he.2⟩)
  simp [mkCh,cCh]
theorem z08q {ts:List Tok} (hl:ts.length≤2000):TP L 0 i Prod.fst mkMo 0 (fun _=>z2h (PS L ts 0 i)>>=fun v4=>z0p v4.1>>=fun v5=>z2h v5.1>>=fun v6=>z08 v6.1 (ByteArray.mk #[59])>>=fun v7=>some (v7,z5d.mk v4.2 v5.2 v6.2)) (ztn L ts):=by
 unfold ztn
 refine TP.bind (π':=Prod.fst) (mk':=mkMo) (z01w hl) (fun a r1 h1=>?_) (fun r c p hc he=>z4u (by simp only [eQ (a:=r.1) (z5k hc he),z5u,zap,Option.bind_eq_bind,Option.bind_some];rfl) ⟨he.1,he.2⟩)
 have l1:=z56 (zib h1).1 hl
 refine TP.bind (π':=Prod.fst) (mk':=mkMo) (zdt l1) (fun t r2 h2=>?_) (fun r c p hc he=>z4u (by simp only [eQ (a:=r.1) (z5k hc he),z5u,zap,Option.bind_eq_bind,Option.bind_some];rfl) ⟨he.1,he.2⟩)
 have l2:=z56 (z4m h2).1 l1
 refine TP.bind (π':=Prod.fst) (mk':=mkMo) (z01w l2) (fun b r3 h3=>?_) (fun r c p hc he=>z4u (by simp only [eQ (a:=r.1) (z5k hc he),z5u,zap,Option.bind_eq_bind,Option.bind_some];rfl) ⟨he.1,he.2⟩)
 have l3:=z56 (zib h3).1 l2
 exact TP.bind (π':=Prod.fst) (mk':=mkMo) (z98 l3 _) (fun _ r4 h4=>TP.pure (fun n=>rfl)) (fun r c p hc he=>⟨(r,⟨a,t,b⟩),he,fun n=>.inl rfl⟩)
theorem z05z {ts:List Tok} (hl:ts.length≤2000):TP L 0 i Prod.fst (fun v a=>(a,[]++v.map cMo)) 0 (fun _=>LF z40 (PS L ts 0 i) []) (zh3 (zto L) (ts.length+1) ts):=by
 refine zpb (cv:=cMo) zq9 (fun ts l ht hm=>?_) (fun ts o ht hm=>?_) (fun a l h=>z03j h l) _ ts [] (by omega) (by simp;omega)
 ·unfold zto at hm
  cases hs:z6i (ByteArray.mk #[125]) ts with
  | false=>rw [hs] at hm;cases hm
  | true =>
   unfold z40
   rw [if_pos (by rfl)]
   show ((z3j (PS L ts 0 i) (ByteArray.mk #[125])>>=fun v5=>some (!v5))>>=_)=_
   rw [zj9,hs];rfl
 ·unfold zto at hm
  cases hs:z6i (ByteArray.mk #[125]) ts with
  | true=>rw [hs] at hm;cases hm
  | false =>
   rw [hs] at hm;injection hm with hm;subst hm
   refine ⟨_,z08q ht,fun l hll=>?_⟩
   unfold z40
   rw [if_pos (by rfl)]
   show ((z3j (PS L ts 0 i) (ByteArray.mk #[125])>>=fun v5=>some (!v5))>>=_)=_
   rw [zj9,hs]
   simp only [Option.bind_eq_bind,Option.bind_some,Bool.not_false,if_true,Option.bind_assoc]
   congr 1;funext v4
   congr 1;funext v5
   congr 1;funext v6
   congr 1;funext v7
   show (app 32 l [_]).bind _=_
   rw [z7v (by simp;omega)];rfl
theorem z08r {ts:List Tok} {H:Nat} (hl:ts.length≤2000):TP L 0 i Prod.fst mkRu H (fun _=>z83 (PS L ts 0 i)) (ztp L ts):=by
 refine TP.eq (y:=fun _=>_) ?_ (fun _=>z05x _)
 unfold ztp
 refine TP.bind (π':=Prod.fst) (mk':=mkRu) (zdt hl) (fun m r1 h1=>?_) (fun r c p hc he=>z4u (by simp only [eQ (a:=r.1) (z5k hc he),z5u,zap,Option.bind_eq_bind,Option.bind_some];rfl) ⟨he.1,he.2⟩)
 have l1:=z56 (z4m h1).1 hl
 refine TP.bind (π':=Prod.fst) (mk':=mkRu) (z98 l1 _) (fun _ r2 h2=>?_) (fun r c p hc he=>z4u (by simp only [eQ (a:=r) (z5k hc he),z5u,zap,Option.bind_eq_bind,Option.bind_some];rfl) ⟨he.1,he.2⟩)
 have l2:=z56 (z33 h2).1 l1
 refine TP.bind (π':=Prod.fst) (mk':=mkRu) ((z05z l2).mono (Nat.zero_le _)) (fun l r3 h3=>?_) (fun r c p hc he=>z4u (by simp only [eQ (a:=r.1) (z5k hc he),z5u,zap,Option.bind_eq_bind,Option.bind_some];rfl) ⟨he.1,he.2⟩)
 have l3:=z56 (zfs zq9 _ _ _ _ h3) l2
 refine TP.bind (π':=Prod.fst) (mk':=mkRu) (z98 l3 _) (fun _ r4 h4=>TP.pure (fun n=>rfl)) (fun r c p hc he=>z4u (by simp only [eQ (a:=r) (z5k hc he),z5u,zap,Option.bind_eq_bind,Option.bind_some];rfl) ⟨he.1,he.2⟩)
theorem z08s {ts:List Tok} (hl:ts.length≤2000):TP L 0 i Prod.fst (fun v a=>(a,[]++v.map id)) 0 (fun _=>LF z41 (PS L ts 0 i) []) (zh3 (mVar L) (ts.length+1) ts):=by
 refine zpb (cv:=id) zva (fun ts l ht hm=>?_) (fun ts o ht hm=>?_) (fun a l h=>z03k h l) _ ts [] (by omega) (by simp;omega)
 ·unfold mVar at hm
  cases hs:z6i (ByteArray.mk #[118,97,114]) ts with
  | true=>rw [hs] at hm;cases hm
  | false =>
   unfold z41
   show (z0r (PS L ts 0 i) _>>=_)=_
   rw [zb5 ht,hs];rfl
 ·unfold mVar at hm
  cases hs:z6i (ByteArray.mk #[118,97,114]) ts with
  | false=>rw [hs] at hm;cases hm
  | true =>
   rw [hs] at hm;injection hm with hm;subst hm
   have l0:ts.tail.length≤2000:=by have:=z6q hs;omega
   refine ⟨z0p (PS L ts.tail 0 i)>>=fun v4=>z08 v4.1 (ByteArray.mk #[59])>>=fun v6=>some (v6,v4.2),?_,fun l hll=>?_⟩
   ·refine TP.bind (π':=Prod.fst) (mk':=fun v a=>(a,id v)) (zdt l0) (fun m r1 h1=>?_) (fun r c p hc he=>z4u (by simp only [eQ (a:=r.1) (z5k hc he),z5u,zap,Option.bind_eq_bind,Option.bind_some]) ⟨he.1,he.2⟩)
    exact TP.bind (π':=Prod.fst) (mk':=fun v a=>(a,id v)) (z98 (z56 (z4m h1).1 l0) _) (fun _ r2 h2=>TP.pure (fun n=>rfl)) (fun r c p hc he=>⟨(r,m),he,fun n=>.inl rfl⟩)
   ·unfold z41
    show (z0r (PS L ts 0 i) _>>=_)=_
    rw [zb5 ht,hs]
    simp only [Option.bind_eq_bind,Option.bind_some,if_true,Option.bind_assoc]
    congr 1;funext v
    show (app 16 l [v.2]).bind _=_
    rw [z7v (by simp;omega)];rfl
theorem z08t {ts:List Tok} {H:Nat} (hl:ts.length≤2000):TP L 0 0 Prod.fst mkL H (fun _=>z7s (PS L ts 0 0)) (z000 L ts):=by
 have h:=(pt L (3*ts.length+2)).stmts 0 ts [] (by omega) hl (by simpa using hl)
 have h:=TP.up (F:=fun n=>z1b n (PS L ts 0 0)) rfl (fun n=>rfl) h
 have h:=h.unf.mono (Nat.zero_le H)
 intro hne
 obtain ⟨r,g,s⟩:=h hne
 refine ⟨r,?_,s⟩
 unfold z000
 simpa using g
theorem z08u {ts:List Tok} {H:Nat} (hl:ts.length≤2000):TP L 0 0 Prod.fst mkPr H (fun _=>z86 (PS L ts 0 0)) (ztq L ts):=by
 refine TP.eq (y:=fun _=>_) ?_ (fun _=>z05y _)
 unfold ztq
 refine TP.bind (π':=Prod.fst) (mk':=mkPr) (zdt hl) (fun m r1 h1=>?_) (fun r c p hc he=>z4u (by simp only [eQ (a:=r.1) (z5k hc he),z5u,zap,Option.bind_eq_bind,Option.bind_some];rfl) ⟨he.1,he.2⟩)
 have l1:=z56 (z4m h1).1 hl
 refine TP.bind (π':=Prod.fst) (mk':=mkPr) (z98 l1 _) (fun _ r2 h2=>?_) (fun r c p hc he=>z4u (by simp only [eQ (a:=r) (z5k hc he),z5u,zap,Option.bind_eq_bind,Option.bind_some];rfl) ⟨he.1,he.2⟩)
 have l2:=z56 (z33 h2).1 l1
 refine TP.bind (π':=Prod.fst) (mk':=mkPr) ((z08s l2).mono (Nat.zero_le _)) (fun l r3 h3=>?_) (fun r c p hc he=>z4u (by simp only [eQ (a:=r.1) (z5k hc he),z5u,zap,Option.bind_eq_bind,Option.bind_some];rfl) ⟨he.1,he.2⟩)
 have l3:=z56 (zfs zva _ _ _ _ h3) l2
 refine TP.bind (π':=Prod.fst) (mk':=mkPr) (z08t l3) (fun b r4 h4=>?_) (fun r c p hc he=>z4u (by simp only [eQ (a:=r.1) (z5k hc he),z5u,zap,Option.bind_eq_bind,Option.bind_some];rfl) ⟨he.1,he.2⟩)
 have l4:=z56 (zvb h4) l3
 refine TP.bind (π':=Prod.fst) (mk':=mkPr) (z98 l4 _) (fun _ r5 h5=>TP.pure (fun n=>?_)) (fun r c p hc he=>z4u (by simp only [eQ (a:=r) (z5k hc he),z5u,zap,Option.bind_eq_bind,Option.bind_some];rfl) ⟨he.1,he.2⟩)
 simp [mkPr,cPr]
theorem z060 {ts:List Tok} (hl:ts.length≤2000):TP L 0 0 Prod.fst (fun v a=>(a,[]++v.map cCh)) 0 (fun _=>LF z7f (PS L ts 0 0) []) (zh3 (ztr L) (ts.length+1) ts):=by
 refine zpb (cv:=cCh) ztu (fun ts l ht hm=>?_) (fun ts o ht hm=>?_) (fun a l h=>z08k h l) _ ts [] (by omega) (by simp;omega)
 ·unfold ztr at hm
  cases hs:z6i (ByteArray.mk #[99,104,97,110]) ts with
  | true=>rw [hs] at hm;cases hm
  | false =>
   unfold z7f
   show (z0r (PS L ts 0 0) _>>=_)=_
   rw [zb5 ht,hs];rfl
 ·unfold ztr at hm
  cases hs:z6i (ByteArray.mk #[99,104,97,110]) ts with
  | false=>rw [hs] at hm;cases hm
  | true =>
   rw [hs] at hm;injection hm with hm;subst hm
   have l0:ts.tail.length≤2000:=by have:=z6q hs;omega
   refine ⟨z6t (PS L ts.tail 0 0),z08p l0,fun l hll=>?_⟩
   unfold z7f
   show (z0r (PS L ts 0 0) _>>=_)=_
   rw [zb5 ht,hs]
   simp only [Option.bind_eq_bind,Option.bind_some,if_true]
   congr 1;funext v
   show (app 88 l [v.2]).bind _=_
   rw [z7v (by simp;omega)];rfl
theorem z061 {ts:List Tok} (hl:ts.length≤2000):TP L 0 0 Prod.fst (fun v a=>(a,[]++v.map cRu)) 0 (fun _=>LF z7g (PS L ts 0 0) []) (zh3 (zts L) (ts.length+1) ts):=by
 refine zpb (cv:=cRu) ztv (fun ts l ht hm=>?_) (fun ts o ht hm=>?_) (fun a l h=>z03l h l) _ ts [] (by omega) (by simp;omega)
 ·unfold zts at hm
  cases hs:z6i (ByteArray.mk #[114,117,108,101]) ts with
  | true=>rw [hs] at hm;cases hm
  | false =>
   unfold z7g
   show (z0r (PS L ts 0 0) _>>=_)=_
   rw [zb5 ht,hs];rfl
 ·unfold zts at hm
  cases hs:z6i (ByteArray.mk #[114,117,108,101]) ts with
  | false=>rw [hs] at hm;cases hm
  | true =>
   rw [hs] at hm;injection hm with hm;subst hm
   have l0:ts.tail.length≤2000:=by have:=z6q hs;omega
   refine ⟨z83 (PS L ts.tail 0 0),z08r l0,fun l hll=>?_⟩
   unfold z7g
   show (z0r (PS L ts 0 0) _>>=_)=_
   rw [zb5 ht,hs]
   simp only [Option.bind_eq_bind,Option.bind_some,if_true]
   congr 1;funext v
   show (app 40 l [v.2]).bind _=_
   rw [z7v (by simp;omega)];rfl
theorem z062 {ts:List Tok} (hl:ts.length≤2000):TP L 0 0 Prod.fst (fun v a=>(a,[]++v.map cPr)) 0 (fun _=>LF z6j (PS L ts 0 0) []) (zh3 (ztt L) (ts.length+1) ts):=by
 refine zpb (cv:=cPr) z001 (fun ts l ht hm=>?_) (fun ts o ht hm=>?_) (fun a l h=>z002 h l) _ ts [] (by omega) (by simp;omega)
 ·unfold ztt at hm
  cases hs:z6i (ByteArray.mk #[112,114,111,99]) ts with
  | true=>rw [hs] at hm;cases hm
  | false =>
   unfold z6j
   show (z0r (PS L ts 0 0) _>>=_)=_
   rw [zb5 ht,hs];rfl
 ·unfold ztt at hm
  cases hs:z6i (ByteArray.mk #[112,114,111,99]) ts with
  | false=>rw [hs] at hm;cases hm
  | true =>
   rw [hs] at hm;injection hm with hm;subst hm
   have l0:ts.tail.length≤2000:=by have:=z6q hs;omega
   refine ⟨z86 (PS L ts.tail 0 0),z08u l0,fun l hll=>?_⟩
   unfold z6j
   show (z0r (PS L ts 0 0) _>>=_)=_
   rw [zb5 ht,hs]
   simp only [Option.bind_eq_bind,Option.bind_some,if_true]
   congr 1;funext v
   show (app 64 l [v.2]).bind _=_
   rw [z7v (by simp;omega)];rfl
end
noncomputable def pAll (a:z00):Option (z00 × z17):=LF z7f a []>>=fun c=>LF z7g c.1 []>>=fun r=>LF z6j r.1 []>>=fun p=>some (p.1,⟨c.2,r.2,p.2⟩)
noncomputable def pFin (v:z00 × z17):Option (z17 × Int × Int) :=
 if (decide ((v.1.f_l.length:Int) > 0)) then (z2q v.1 5>>=fun w=>if (w.f_e != 0) then some ((z17.mk [] [] []),w.f_at,w.f_e) else some (v.2,0,0))
 else (if (v.1.f_e != 0) then some ((z17.mk [] [] []),v.1.f_at,v.1.f_e) else some (v.2,0,0))
theorem zvc (s:ByteArray):zak s=zhs s>>=fun v1=>if (v1.2.2 != 0) then some ((z17.mk [] [] []),v1.2.1,v1.2.2) else pAll ⟨v1.1,(s.size:Int),0,0,0,0⟩>>=pFin:=by
 unfold pAll
 simp only [Option.bind_eq_bind,Option.bind_assoc,Option.bind_some]
 simp only [← Option.bind_eq_bind,← zv8]
 rfl
section
variable {L:Int} {ts:List Tok}
theorem z0a7 (hl:ts.length≤2000):TP L 0 0 Prod.fst (fun v a=>(a,cSys v)) 0 (fun _=>pAll (PS L ts 0 0)) (sSys L ts):=by
 unfold sSys pAll
 refine TP.bind (π':=Prod.fst) (mk':=fun v a=>(a,cSys v)) (z060 hl) (fun c r1 h1=>?_) (fun r c p hc he=>⟨(r.1,⟨r.2,[],[]⟩),he,fun n=>.inl (by rw [zmq (z03l (z5k hc he) [])];show (LF z6j r.1 []>>=_)=_;rw [zmq (z002 (z5k hc he) [])];rfl)⟩)
 have l1:=z56 (zfs ztu _ _ _ _ h1) hl
 refine TP.bind (π':=Prod.fst) (mk':=fun v a=>(a,cSys v)) (z061 l1) (fun d r2 h2=>?_) (fun r cc p hc he=>⟨(r.1,⟨c.map cCh,r.2,[]⟩),he,fun n=>.inl (by rw [zmq (z002 (z5k hc he) [])];rfl)⟩)
 have l2:=z56 (zfs ztv _ _ _ _ h2) l1
 exact TP.bind (π':=Prod.fst) (mk':=fun v a=>(a,cSys v)) (z062 l2) (fun d r2 h2=>TP.pure (fun n=>rfl)) (fun r cc p hc he=>⟨(r.1,⟨c.map cCh,d.map cRu,r.2⟩),he,fun n=>.inl rfl⟩)
theorem z063 {s:ByteArray} {p:Int} (hs:zhs s=some (ts.map tokT,p,0)) (hl:ts.length≤2000):zak s=some (match sAll (s.size:Int) ts with
  | .ok v _=>(cSys v,0,0)
  | .er c p=>(⟨[],[],[]⟩,p,c)
  | .out=>(⟨[],[],[]⟩,0,0)):=by
 rw [zvc,hs]
 show (pAll (PS (s.size:Int) ts 0 0)>>=pFin)=_
 obtain ⟨r,g,q⟩:=z0a7 (L:=(s.size:Int)) hl z03h
 have q:pAll (PS (s.size:Int) ts 0 0)=some r:=by
  rcases q 0 with q|⟨_,q⟩
  ·exact q
  ·omega
 rw [q]
 show pFin r=_
 unfold sAll
 cases hv:sSys (s.size:Int) ts with
 | ok v rest =>
  rw [hv] at g
  have g:r=(PS (s.size:Int) rest 0 0,cSys v):=g
  subst g
  cases rest with
  | nil=>rfl
  | cons t rest =>
   unfold pFin
   rw [if_pos (by simp [PS])]
   show (z2q (PS _ _ 0 0) 5>>=_)=_
   rw [zo3];rfl
 | er c p =>
  rw [hv] at g
  obtain ⟨hc,he⟩:=g
  have h:r.1.f_e≠0:=z5k hc he
  have h1:(r.1.f_e != 0)=true:=e1 h
  unfold pFin
  rw [zp9 h]
  simp only [Option.bind_eq_bind,Option.bind_some,h1,if_true,ite_self]
  rw [he.1,he.2];rfl
 | out=>exact absurd hv z03h
end
def emp:z63:=⟨[],[],[]⟩
def fin (L:Int) (z:List Tok × Int × Int):z63 × Int × Int:=if z.2.2 != 0 then (emp,z.2.1,z.2.2) else match sAll L z.1 with
 | .ok v _=>(v,0,0)
 | .er c p=>(emp,p,c)
 | .out=>(emp,0,0)
def gAll (s:ByteArray):z63 × Int × Int:=fin (s.size:Int) (told s.size (lexS s.data.toList 0))
theorem z02d (n:Nat) (z:List Tok × Option (Nat × Int)):(told n z).1.length≤2000:=by
 unfold told
 split
 ·simp
 ·split
  ·simp
  ·simp;omega
theorem parse_f {s:ByteArray} (hs:s.size≤4194304):zak s=some (cSys (gAll s).1,(gAll s).2.1,(gAll s).2.2):=by
 have hl:=z08v s hs
 have h2:=z02d s.size (lexS s.data.toList 0)
 unfold gAll fin
 unfold finT at hl
 generalize told s.size (lexS s.data.toList 0)=z at *
 obtain ⟨ts,p,e⟩:=z
 cases he:(e != 0) with
 | true =>
  rw [zvc,hl]
  simp only [Option.bind_eq_bind,Option.bind_some,he,if_true]
  rfl
 | false =>
  have he':e=0:=by simpa using he
  subst he'
  rw [z063 hl h2]
  simp only [he,Bool.false_eq_true,if_false]
  cases sAll (s.size:Int) ts <;> rfl
def lexF:Nat→Bs→Nat→List Tok × Option (Nat × Int)
 | 0,_,_=>([],none)
 | n+1,l,p=>match l with
  | []=>([],none)
  | b::r =>
   if isB b then lexF n r (p+1)
   else match zmx (b::r) with
    | .error e=>([],some (p,e))
    | .ok w=>let z:=lexF n (r.drop (w.len - 1)) (p+w.len);(⟨w.kind,(b::r).take w.len,w.num,p⟩::z.1,z.2)
theorem z064:∀ n l p,l.length≤n→lexS l p=lexF n l p:=by
 intro n
 induction n with
 | zero =>
  intro l p h
  have:l=[]:=List.eq_nil_of_length_eq_zero (by omega)
  subst this;unfold lexS;rfl
 | succ n ih =>
  intro l p h
  cases l with
  | nil=>unfold lexS;rfl
  | cons b r =>
   simp only [List.length_cons] at h
   unfold lexS
   simp only [lexF]
   split
   ·exact ih _ _ (by omega)
   ·cases zmx (b::r) with
    | error e=>rfl
    | ok w=>simp only [ih (r.drop (w.len - 1)) (p+w.len) (by simp;omega)]
def gF (s:ByteArray):z63 × Int × Int:=fin (s.size:Int) (told s.size (lexF s.size s.data.toList 0))
theorem gF_eq (s:ByteArray):gAll s=gF s:=by
 unfold gAll gF
 rw [z064 s.size _ _ (Nat.le_of_eq (by cases s;simp [ByteArray.size]))]
abbrev T1:ByteArray:=ByteArray.mk #[112,114,111,99,32,112,32,123,32,120,32,61,32,49,32,43,32,50,32,42,32,51,32,59,32,125]
end Go.Proofs.YtimbigpplbbjaaaGreatDoor.Abs.Par

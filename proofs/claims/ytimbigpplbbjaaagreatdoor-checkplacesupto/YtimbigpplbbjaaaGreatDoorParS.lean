/- The maker: what checking is (first errors), names, expressions, comparisons. -/
import Derived.Test.YtimbigpplbbjaaaGreatDoorPlB
import Derived.Test.YtimbigpplbbjaaaGreatDoorParT
import Derived.Test.YtimbigpplbbjaaaGreatDoorAbsB
import Derived.Test.YtimbigpplbbjaaaGreatDoorGwF
namespace Go.Proofs.YtimbigpplbbjaaaGreatDoor.Abs.Cm
open Go Go.RowKit Wri
set_option linter.unusedVariables false
set_option linter.unusedSimpArgs false
theorem obs {α β:Type} (x:α) (f:α→Option β):(some x>>=f)=f x:=rfl
inductive X (α:Type) where
 | ok (a:α)
 | er (c:Int)
def X.bd {α β:Type} (x:X α) (f:α→X β):X β:=match x with
 | .ok a=>f a
 | .er c=>.er c
def X.mp {α β:Type} (x:X α) (f:α→β):X β:=x.bd fun a=>.ok (f a)
def X.must (b:Bool) (c:Int):X Unit:=if b then .ok () else .er c
def Tl {α:Type} (e0:Int) (s:X α) (e1:Int) (v:α):Prop:=(e0≠0→e1=e0)∧(e0=0→match s with
 | .ok a=>e1=0∧v=a
 | .er c=>e1=c∧c≠0)
theorem Tl.pure {α:Type} (e:Int) (a:α):Tl e (.ok a) e a:=⟨fun _=>rfl,fun h=>⟨h,rfl⟩⟩
theorem Tl.bd {α β:Type} {e0 e1 e2:Int} {s:X α} {f:α→X β} {v:α} {u:β} (h1:Tl e0 s e1 v) (h2:Tl e1 (f v) e2 u):Tl e0 (s.bd f) e2 u:=by
 refine ⟨fun h=>?_,fun h=>?_⟩
 ·have:=h1.1 h
  rw [h2.1 (by rw [this];exact h),this]
 ·have h3:=h1.2 h
  cases s with
  | ok a =>
   obtain ⟨rfl,rfl⟩:=h3
   exact h2.2 rfl
  | er c =>
   obtain ⟨rfl,h4⟩:=h3
   exact ⟨h2.1 h4,h4⟩
theorem Tl.mp {α β:Type} {e0 e1:Int} {s:X α} {v:α} (h:Tl e0 s e1 v) (f:α→β):Tl e0 (s.mp f) e1 (f v):=h.bd (Tl.pure _ _)
theorem Tl.off {α:Type} {e:Int} (h:e≠0) (s:X α) (v:α):Tl e s e v:=⟨fun _=>rfl,fun h'=>absurd h' h⟩
theorem Tl.of {α:Type} {e0:Int} {s:X α} {e1:Int} {v:α} (h:Tl e0 s e1 v) (h0:e0=0):(∃ a,s=.ok a∧e1=0∧v=a)∨(∃ c,s=.er c∧e1=c∧c≠0):=by
 have:=h.2 h0
 cases s with
 | ok a=>exact .inl ⟨a,rfl,this⟩
 | er c=>exact .inr ⟨c,rfl,this⟩
theorem z05q {α β:Type} (a:α) (f:α→X β):(X.ok a).bd f=f a:=rfl
def mapX {β γ:Type} (f:β→X γ):List β→X (List γ)
 | []=>.ok []
 | x::r=>(f x).bd fun v=>(mapX f r).mp (v::·)
theorem z0a7 {β γ O:Type} {body:Nat→Int × Int × List γ→Option (Sum (Int × Int × List γ) (Sum O (Int × List γ)))} {H:Nat} (f:β→X γ) (a1:List β) (hlen:a1.length≤400000000000)
  (hs:∀ (i:Nat) x e acc,i<a1.length→idx a1 (i:Int)=some x→x∈a1→acc.length=i→IntKind.i64.wrap ((i:Int)+1)=((i+1:Nat):Int) →
   ∃ e' v,(∀ n,Sn n H (body n ((i:Int),e,acc)) (.inl (((i+1:Nat):Int),e',acc++[v])))∧Tl e (f x) e' v)
  (he:∀ n e acc,body n ((a1.length:Int),e,acc)=some (.inr (.inr (e,acc)))) :
  ∀ (l:List β) (i:Nat) (e:Int) (acc:List γ),a1.drop i=l→i≤a1.length→acc.length=i→∃ e' vs,(∀ n,Sn n H (iter (body n) ((i:Int),e,acc)) (.inr (e',acc++vs)))∧Tl e (mapX f l) e' vs:=by
 intro l
 induction l with
 | nil =>
  intro i e acc hd hi ha
  have:i=a1.length:=by have:=List.drop_eq_nil_iff.1 hd;omega
  subst this
  exact ⟨e,[],fun n=>.inl (by rw [z4r (he n e acc)];simp),Tl.pure _ _⟩
 | cons s r ih =>
  intro i e acc hd hi ha
  have hlt:i<a1.length:=by
   refine Nat.lt_of_not_le fun h=>?_
   rw [List.drop_of_length_le h] at hd;cases hd
  rw [List.drop_eq_getElem_cons hlt] at hd
  injection hd with h1 h2
  have hi2:idx a1 (i:Int)=some s:=by rw [z9m hlt,h1]
  have hw:IntKind.i64.wrap ((i:Int)+1)=((i+1:Nat):Int):=by rw [w64 (by omega) (by omega)];omega
  have hm:s∈a1:=by rw [← h1];exact List.getElem_mem hlt
  obtain ⟨e1,v,h3,h4⟩:=hs i s e acc hlt hi2 hm ha hw
  obtain ⟨e2,vs,h5,h6⟩:=ih (i+1) e1 (acc++[v]) h2 hlt (by simp;omega)
  refine ⟨e2,v::vs,fun n=>?_,h4.bd (h6.mp _)⟩
  rw [zcd]
  refine Sn.bind (h3 n) ?_
  have:=h5 n
  simpa using this
theorem z08a {β γ O:Type} {body:Nat→Int × Int × List γ→Option (Sum (Int × Int × List γ) (Sum O (Int × List γ)))} {H:Nat} (f:β→X γ) (a1:List β) (hlen:a1.length≤400000000000)
  (hs:∀ (i:Nat) x e acc,i<a1.length→idx a1 (i:Int)=some x→x∈a1→acc.length=i→IntKind.i64.wrap ((i:Int)+1)=((i+1:Nat):Int) →
   ∃ e' v,(∀ n,Sn n H (body n ((i:Int),e,acc)) (.inl (((i+1:Nat):Int),e',acc++[v])))∧Tl e (f x) e' v)
  (he:∀ n e acc,body n ((a1.length:Int),e,acc)=some (.inr (.inr (e,acc)))) (e:Int):∃ e' vs,(∀ n,Sn n H (iter (body n) (0,e,[])) (.inr (e',vs)))∧Tl e (mapX f a1) e' vs:=by
 obtain ⟨e',vs,h1,h2⟩:=z0a7 f a1 hlen hs he a1 0 e [] rfl (by omega) rfl
 exact ⟨e',vs,fun n=>by simpa using h1 n,h2⟩
theorem z08b {β γ O:Type} {body:Nat→Int × Int × List γ→Option (Sum (Int × Int × List γ) (Sum O (Int × List γ)))} {H:Nat} (f:β→X γ) (a1:List β) (hlen:a1.length≤400000000000)
  (hs:∀ (i:Nat) x acc,i<a1.length→idx a1 (i:Int)=some x→x∈a1→acc.length=i→IntKind.i64.wrap ((i:Int)+1)=((i+1:Nat):Int) →
   ∃ e' v,(∀ n,Sn n H (body n ((i:Int),0,acc)) (.inl (((i+1:Nat):Int),e',acc++[v])))∧Tl 0 (f x) e' v)
  (hx:∀ n (i:Nat) e acc,i<a1.length→e≠0→body n ((i:Int),e,acc)=some (.inr (.inr (e,acc)))) (he:∀ n e acc,body n ((a1.length:Int),e,acc)=some (.inr (.inr (e,acc)))) :
  ∀ (l:List β) (i:Nat) (e:Int) (acc:List γ),a1.drop i=l→i≤a1.length→acc.length=i→∃ e' vs,(∀ n,Sn n H (iter (body n) ((i:Int),e,acc)) (.inr (e',acc++vs)))∧Tl e (mapX f l) e' vs:=by
 intro l
 induction l with
 | nil =>
  intro i e acc hd hi ha
  have:i=a1.length:=by have:=List.drop_eq_nil_iff.1 hd;omega
  subst this
  exact ⟨e,[],fun n=>.inl (by rw [z4r (he n e acc)];simp),Tl.pure _ _⟩
 | cons s r ih =>
  intro i e acc hd hi ha
  have hlt:i<a1.length:=by
   refine Nat.lt_of_not_le fun h=>?_
   rw [List.drop_of_length_le h] at hd;cases hd
  by_cases h0:e=0
  ·subst h0
   rw [List.drop_eq_getElem_cons hlt] at hd
   injection hd with h1 h2
   have hi2:idx a1 (i:Int)=some s:=by rw [z9m hlt,h1]
   have hw:IntKind.i64.wrap ((i:Int)+1)=((i+1:Nat):Int):=by rw [w64 (by omega) (by omega)];omega
   have hm:s∈a1:=by rw [← h1];exact List.getElem_mem hlt
   obtain ⟨e1,v,h3,h4⟩:=hs i s acc hlt hi2 hm ha hw
   obtain ⟨e2,vs,h5,h6⟩:=ih (i+1) e1 (acc++[v]) h2 hlt (by simp;omega)
   refine ⟨e2,v::vs,fun n=>?_,h4.bd (h6.mp _)⟩
   rw [zcd]
   refine Sn.bind (h3 n) ?_
   have:=h5 n
   simpa using this
  ·exact ⟨e,[],fun n=>.inl (by rw [z4r (hx n i e acc hlt h0)];simp),Tl.off h0 _ _⟩
theorem z05r {β γ O:Type} {body:Nat→Int × Int × List γ→Option (Sum (Int × Int × List γ) (Sum O (Int × List γ)))} {H:Nat} (f:β→X γ) (a1:List β) (hlen:a1.length≤400000000000)
  (hs:∀ (i:Nat) x acc,i<a1.length→idx a1 (i:Int)=some x→x∈a1→acc.length=i→IntKind.i64.wrap ((i:Int)+1)=((i+1:Nat):Int) →
   ∃ e' v,(∀ n,Sn n H (body n ((i:Int),0,acc)) (.inl (((i+1:Nat):Int),e',acc++[v])))∧Tl 0 (f x) e' v)
  (hx:∀ n (i:Nat) e acc,i<a1.length→e≠0→body n ((i:Int),e,acc)=some (.inr (.inr (e,acc)))) (he:∀ n e acc,body n ((a1.length:Int),e,acc)=some (.inr (.inr (e,acc)))) (e:Int) :
  ∃ e' vs,(∀ n,Sn n H (iter (body n) (0,e,[])) (.inr (e',vs)))∧Tl e (mapX f a1) e' vs:=by
 obtain ⟨e',vs,h1,h2⟩:=z08b f a1 hlen hs hx he a1 0 e [] rfl (by omega) rfl
 exact ⟨e',vs,fun n=>by simpa using h1 n,h2⟩
def fi (s:ByteArray):List ByteArray→Option Nat
 | []=>none
 | x::l=>if (s.toList==x.toList)=true then some 0 else (fi s l).map (· + 1)
theorem zze {s:ByteArray}:∀ {l:List ByteArray} {i:Nat},fi s l=some i→i<l.length
 | x::l,i,h=>by
  simp only [fi] at h
  split at h
  ·injection h with h;subst h;simp
  ·rw [Option.map_eq_some_iff] at h
   obtain ⟨j,hj,rfl⟩:=h
   have:=zze hj
   simp;omega
def fiI (s:ByteArray) (l:List ByteArray):Int:=match fi s l with
 | some i=>(i:Int)
 | none=>-1
theorem zzf {l:List ByteArray} (s:ByteArray) (hl:l.length≤400000000000):z3p l s=some (fiI s l):=by
 unfold z3p
 have key:∀ (m:List ByteArray) (i:Nat),l.drop i=m→i≤l.length→iter (z3o l s) (i:Int)=some (match fi s m with|some j=>.inl (((i+j:Nat):Nat):Int)|none=>.inr ()):=by
  intro m
  induction m with
  | nil =>
   intro i hd hi
   have:i=l.length:=by have:=List.drop_eq_nil_iff.1 hd;omega
   subst this
   exact z4r (r:=(Sum.inr ():Sum Int Unit)) (by simp [z3o])
  | cons x r ih =>
   intro i hd hi
   have hlt:i<l.length:=by
    refine Nat.lt_of_not_le fun h=>?_
    rw [List.drop_of_length_le h] at hd;cases hd
   rw [List.drop_eq_getElem_cons hlt] at hd
   injection hd with h1 h2
   have hi2:idx l (i:Int)=some x:=by rw [z9m hlt,h1]
   have hw:IntKind.i64.wrap ((i:Int)+1)=((i+1:Nat):Int):=by rw [w64 (by omega) (by omega)];omega
   have hd1:decide ((i:Int)<(l.length:Int))=true:=by simpa using hlt
   cases hb:(s.toList==x.toList) with
   | true =>
    rw [z4r (r:=.inl (i:Int)) (by unfold z3o;rw [if_pos hd1,hi2,obs,if_pos hb])]
    simp [fi,hb]
   | false =>
    rw [z9w (y:=((i+1:Nat):Int)) (by unfold z3o;rw [if_pos hd1,hi2,obs,if_neg (by rw [hb];simp),hw]),ih (i+1) h2 hlt]
    simp only [fi,hb,Bool.false_eq_true,if_false]
    cases fi s r with
    | none=>rfl
    | some j=>simp only [Option.map_some];congr 2;omega
 rw [show (0:Int)=((0:Nat):Int) from rfl,key l 0 rfl (by omega),obs]
 unfold fiI
 cases fi s l with
 | none=>rfl
 | some j=>simp
theorem zmi {l:List ByteArray} (s:ByteArray) (hl:l.length≤400000000000):z3q l s=some (decide (fiI s l≥0)):=by
 unfold z3q
 rw [zzf s hl];rfl
theorem zv6 {s:ByteArray} {l:List ByteArray}:decide (fiI s l≥0)=(fi s l).isSome:=by
 unfold fiI
 cases fi s l <;> simp
def pl (l:List ByteArray) (s:ByteArray):X Int:=match fi s l with
 | some i=>.ok (i:Int)
 | none=>.er 8
def st (m:z01) (e:Int):z01:=z01.mk m.f_s m.f_p m.f_chans m.f_procs m.f_proc m.f_vars e
theorem st_e (m:z01) (a:Int):(st m a).f_e=a:=rfl
theorem zbi (m:z01) (b:Bool) (c:Int) (hc:c≠0):∃ e,z15 m b c=some (st m e)∧Tl m.f_e (X.must b c) e ():=by
 unfold z15 X.must
 cases b with
 | true=>exact ⟨m.f_e,rfl,Tl.pure _ _⟩
 | false =>
  simp only [Bool.not_false,if_true]
  unfold zbm
  by_cases h:m.f_e=0
  ·refine ⟨c,?_,fun h'=>absurd h h',fun _=>⟨rfl,hc⟩⟩
   rw [if_pos (by simpa using h)];rfl
  ·refine ⟨m.f_e,?_,Tl.off h _ _⟩
   rw [if_neg (by simpa using h)];rfl
theorem zef (m:z01) {l:List ByteArray} (s:ByteArray) (hl:l.length≤400000000000):∃ e v,z2o m l s=some (st m e,v)∧Tl m.f_e (pl l s) e v∧0≤v:=by
 unfold z2o
 rw [zzf s hl,obs,zv6]
 obtain ⟨e,h1,h2⟩:=zbi m (fi s l).isSome 8 (by decide)
 rw [h1,obs]
 refine ⟨e,max (fiI s l) 0,rfl,?_,by omega⟩
 unfold pl
 cases hf:fi s l with
 | none =>
  rw [hf] at h2
  refine ⟨h2.1,fun h0=>?_⟩
  have:=h2.2 h0
  exact this
 | some i =>
  rw [hf] at h2
  refine ⟨h2.1,fun h0=>⟨(h2.2 h0).1,?_⟩⟩
  unfold fiI
  rw [hf]
  simp only
  omega
theorem zq2 (m:z01) (s:ByteArray) (hl:m.f_chans.length≤400000000000):∃ e v,z7b m s=some (st m e,v)∧Tl m.f_e (pl m.f_chans s) e v∧0≤v:=zef m s hl
theorem zzg (m:z01) (s:ByteArray) (hl:m.f_procs.length≤400000000000):∃ e v,z78 m s=some (st m e,v)∧Tl m.f_e (pl m.f_procs s) e v∧0≤v:=zef m s hl
mutual
def mE (V:List ByteArray):z06→X z0v
 | .mk k n s ks=>(if k=2 then pl V s else .ok 0).bd fun v=>(mEs V ks).mp fun l=>⟨k,if k=1 then n else 0,v,l⟩
def mEs (V:List ByteArray):List z06→X (List z0v)
 | []=>.ok []
 | e::r=>(mE V e).bd fun v=>(mEs V r).mp (v::·)
end
theorem zzh (V:List ByteArray):∀ l,mEs V l=mapX (mE V) l
 | []=>rfl
 | e::r=>by simp only [mEs,mapX,zzh V r]
theorem zv7 (e:z06):1≤szE e:=by cases e;simp only [szE];omega
theorem zry:∀ l:List z06,l.length≤szEs l
 | []=>by simp
 | e::r=>by have:=zry r;have:=zv7 e;simp only [szEs,List.length_cons];omega
theorem zrz:∀ {l:List z06} {x:z06},x∈l→szE x≤szEs l
 | y::r,x,h=>by
  rcases List.mem_cons.1 h with rfl|h
  ·simp only [szEs];omega
  ·have:=zrz h;simp only [szEs];omega
theorem el2:z9q=z5b:=rfl
theorem el3:z9r=z5b:=rfl
theorem mE_f:∀ (N:Nat) (x:z06),szE x≤N→N≤400000000000→∀ m:z01,m.f_vars.length≤400000000000→∃ e v,(∀ n,Sn n (szE x) (z2p n m x) (st m e,v))∧Tl m.f_e (mE m.f_vars x) e v:=by
 intro N
 induction N with
 | zero=>intro x h;have:=zv7 x;omega
 | succ N ih =>
  intro x h hN m hv
  obtain ⟨k,nm,s,ks⟩:=x
  have hsz:szE ⟨k,nm,s,ks⟩=1+szEs ks:=by simp only [szE]
  have hlen:=zry ks
  have kid:∀ e0,∃ e1 vs,(∀ n,Sn n (szEs ks) (iter (z5b (z2p n) m ⟨k,nm,s,ks⟩) (0,e0,[])) (.inr (e1,vs)))∧Tl e0 (mEs m.f_vars ks) e1 vs:=by
   intro e0
   rw [zzh]
   refine z08a (body:=fun n=>z5b (z2p n) m ⟨k,nm,s,ks⟩) (mE m.f_vars) ks (by omega) (fun i x e acc hi hx hm ha hw=>?_) (fun n e acc=>?_) e0
   ·have hmx:=zrz hm
    obtain ⟨e',v,h1,h2⟩:=ih x (by omega) (by omega) (st m e) hv
    refine ⟨e',v,fun n=>?_,h2⟩
    unfold z5b
    rw [if_pos (by simpa using hi)]
    show Sn n _ (idx ks (i:Int)>>=_) _
    rw [hx,obs]
    refine Sn.bind ((h1 n).mono hmx) (.inl ?_)
    rw [z82 (by simp;omega),obs]
    dsimp only
    rw [hw];rfl
   ·unfold z5b
    rw [if_neg (by simp)]
  by_cases k1:k=1
  ·subst k1
   obtain ⟨e1,vs,h1,h2⟩:=kid m.f_e
   refine ⟨e1,⟨1,nm,0,vs⟩,fun n=>?_,?_⟩
   ·cases n with
    | zero=>exact .inr ⟨rfl,by omega⟩
    | succ n =>
     simp only [z2p]
     rw [if_pos (by rfl),hsz]
     refine Sn.bind ((h1 n).up.mono (by omega)) (.inl ?_)
     rfl
   ·simp only [mE]
    rw [if_neg (by decide),z05q]
    exact h2.mp fun l=>(⟨1,if (1:Int)=1 then nm else 0,0,l⟩:z0v)
  ·by_cases k2:k=2
   ·subst k2
    obtain ⟨e0,v0,h3,h4,h5⟩:=zef m s hv
    obtain ⟨e1,vs,h1,h2⟩:=kid e0
    refine ⟨e1,⟨2,0,v0,vs⟩,fun n=>?_,?_⟩
    ·cases n with
     | zero=>exact .inr ⟨rfl,by omega⟩
     | succ n =>
      simp only [z2p]
      rw [if_neg (by decide),if_pos (by rfl),hsz,h3,obs,el2]
      refine Sn.bind ((h1 n).up.mono (by omega)) (.inl ?_)
      rfl
    ·simp only [mE]
     rw [if_pos trivial]
     exact h4.bd (h2.mp fun l=>(⟨2,if (2:Int)=1 then nm else 0,v0,l⟩:z0v))
   ·obtain ⟨e1,vs,h1,h2⟩:=kid m.f_e
    refine ⟨e1,⟨k,0,0,vs⟩,fun n=>?_,?_⟩
    ·cases n with
     | zero=>exact .inr ⟨rfl,by omega⟩
     | succ n =>
      simp only [z2p]
      rw [if_neg (by simpa using k1),if_neg (by simpa using k2),hsz,el3]
      refine Sn.bind ((h1 n).up.mono (by omega)) (.inl ?_)
      rfl
    ·simp only [mE]
     rw [if_neg k2,z05q]
     have:=h2.mp fun l=>(⟨k,if k=1 then nm else 0,0,l⟩:z0v)
     rw [if_neg k1] at this ⊢
     exact this
theorem zjd (m:z01) {x:z06} (h:szE x≤400000000000) (hv:m.f_vars.length≤400000000000):∃ e v,z68 m x=some (st m e,v)∧Tl m.f_e (mE m.f_vars x) e v:=by
 obtain ⟨e,v,h1,h2⟩:=mE_f _ x (Nat.le_refl _) h m hv
 exact ⟨e,v,Sn.unf h1,h2⟩
def mC (V:List ByteArray) (c:z4j):X z60:=(mE V c.L).bd fun l=>(mE V c.R).mp fun r=>⟨c.Op,l,r⟩
theorem zo5 (m:z01) {c:z4j} (h:szC c≤400000000000) (hv:m.f_vars.length≤400000000000):∃ e v,z5z m c=some (st m e,v)∧Tl m.f_e (mC m.f_vars c) e v:=by
 unfold szC at h
 obtain ⟨e1,l,h1,h2⟩:=zjd m (x:=c.L) (by omega) hv
 obtain ⟨e2,r,h3,h4⟩:=zjd (st m e1) (x:=c.R) (by omega) hv
 refine ⟨e2,⟨c.Op,l,r⟩,?_,h2.bd (h4.mp _)⟩
 unfold z5z
 rw [h1,obs]
 show z68 (st m e1) c.R>>=_=_
 rw [h3];rfl
structure K where
 V:List ByteArray
 N:List ByteArray
 P:List z0b
 S:List z29
 p:Int
def kx (m:z01):K:=⟨m.f_vars,m.f_chans,m.f_p.Chans,m.f_s.Chans,m.f_proc⟩
structure Wf (m:z01):Prop where
 v:m.f_vars.length≤400000000000
 n:m.f_chans.length≤400000000000
 p:m.f_p.Chans.length=m.f_chans.length
 s:m.f_s.Chans.length=m.f_chans.length
 t:∀ c∈m.f_s.Chans,c.Tags.length≤400000000000
theorem Wf.st {m:z01} (h:Wf m) (e:Int):Wf (st m e):=⟨h.v,h.n,h.p,h.s,h.t⟩
def mCh (k:K) (f:z0b→Int) (name:ByteArray):X (Int × List ByteArray):=match fi name k.N with
 | none=>.er 8
 | some i=>match k.P[i]?,k.S[i]? with
  | some c,some a=>(X.must (f c==k.p) 9).mp fun _=>((i:Int),a.Tags)
  | _,_=>.er 8
theorem z08c {m:z01} (hw:Wf m) (s:ByteArray):∃ e c t,z4k m s=some (st m e,c,t)∧Tl m.f_e (mCh (kx m) z0b.From s) e (c,t)∧t.length≤400000000000:=by
 unfold z4k
 obtain ⟨e,v,h1,h2,h3⟩:=zq2 m s hw.n
 rw [h1,obs]
 by_cases he:e=0
 ·have hm:m.f_e=0:=by
   by_cases h0:m.f_e=0
   ·exact h0
   ·have:=h2.1 h0;omega
  have h4:=h2.2 hm
  unfold pl at h4
  cases hf:fi s m.f_chans with
  | none=>rw [hf] at h4;obtain ⟨h5,h6⟩:=h4;omega
  | some i =>
   rw [hf] at h4
   obtain ⟨_,rfl⟩:=h4
   have hlt:=zze hf
   have hp:i<m.f_p.Chans.length:=by rw [hw.p];exact hlt
   have hs:i<m.f_s.Chans.length:=by rw [hw.s];exact hlt
   rw [if_neg (by simp [st_e,he])]
   obtain ⟨e2,h5,h6⟩:=zbi (st m e) (m.f_p.Chans[i].From==m.f_proc) 9 (by decide)
   refine ⟨e2,(i:Int),m.f_s.Chans[i].Tags,?_,?_,hw.t _ (List.getElem_mem hs)⟩
   ·show (idx m.f_p.Chans (i:Int)>>=_)=_
    rw [z9m hp,obs]
    show (some m.f_p.Chans[i].From>>=_)=_
    rw [obs]
    show (z15 (st m e) (m.f_p.Chans[i].From==m.f_proc) 9>>=_)=_
    rw [h5,obs]
    show (idx m.f_s.Chans (i:Int)>>=_)=_
    rw [z9m hs,obs]
    rfl
   ·have e1:mCh (kx m) z0b.From s=(X.must (m.f_p.Chans[i].From==m.f_proc) 9).mp fun _=>((i:Int),m.f_s.Chans[i].Tags):=by
     unfold mCh
     show (match fi s m.f_chans with|none=>_|some i=>match m.f_p.Chans[i]?,m.f_s.Chans[i]? with|some c,some a=>_|_,_=>_)=_
     rw [hf]
     simp only [List.getElem?_eq_getElem hp,List.getElem?_eq_getElem hs]
     rfl
    rw [e1,hm,← he]
    exact Tl.mp h6 _
 ·rw [if_pos (by simpa [st_e] using he)]
  refine ⟨e,0,[],rfl,⟨h2.1,fun h0=>?_⟩,by simp⟩
  have h4:=h2.2 h0
  unfold pl at h4
  cases hf:fi s m.f_chans with
  | some i=>rw [hf] at h4;exact absurd h4.1 he
  | none =>
   rw [hf] at h4
   have e1:mCh (kx m) z0b.From s=.er 8:=by
    unfold mCh
    show (match fi s m.f_chans with|none=>_|some i=>match m.f_p.Chans[i]?,m.f_s.Chans[i]? with|some c,some a=>_|_,_=>_)=_
    rw [hf]
   rw [e1]
   exact h4
theorem to_f {m:z01} (hw:Wf m) (s:ByteArray):∃ e c t,z4x m s=some (st m e,c,t)∧Tl m.f_e (mCh (kx m) z0b.To s) e (c,t)∧t.length≤400000000000:=by
 unfold z4x
 obtain ⟨e,v,h1,h2,h3⟩:=zq2 m s hw.n
 rw [h1,obs]
 by_cases he:e=0
 ·have hm:m.f_e=0:=by
   by_cases h0:m.f_e=0
   ·exact h0
   ·have:=h2.1 h0;omega
  have h4:=h2.2 hm
  unfold pl at h4
  cases hf:fi s m.f_chans with
  | none=>rw [hf] at h4;obtain ⟨h5,h6⟩:=h4;omega
  | some i =>
   rw [hf] at h4
   obtain ⟨_,rfl⟩:=h4
   have hlt:=zze hf
   have hp:i<m.f_p.Chans.length:=by rw [hw.p];exact hlt
   have hs:i<m.f_s.Chans.length:=by rw [hw.s];exact hlt
   rw [if_neg (by simp [st_e,he])]
   obtain ⟨e2,h5,h6⟩:=zbi (st m e) (m.f_p.Chans[i].To==m.f_proc) 9 (by decide)
   refine ⟨e2,(i:Int),m.f_s.Chans[i].Tags,?_,?_,hw.t _ (List.getElem_mem hs)⟩
   ·show (idx m.f_p.Chans (i:Int)>>=_)=_
    rw [z9m hp,obs]
    show (some m.f_p.Chans[i].To>>=_)=_
    rw [obs]
    show (z15 (st m e) (m.f_p.Chans[i].To==m.f_proc) 9>>=_)=_
    rw [h5,obs]
    show (idx m.f_s.Chans (i:Int)>>=_)=_
    rw [z9m hs,obs]
    rfl
   ·have e1:mCh (kx m) z0b.To s=(X.must (m.f_p.Chans[i].To==m.f_proc) 9).mp fun _=>((i:Int),m.f_s.Chans[i].Tags):=by
     unfold mCh
     show (match fi s m.f_chans with|none=>_|some i=>match m.f_p.Chans[i]?,m.f_s.Chans[i]? with|some c,some a=>_|_,_=>_)=_
     rw [hf]
     simp only [List.getElem?_eq_getElem hp,List.getElem?_eq_getElem hs]
     rfl
    rw [e1,hm,← he]
    exact Tl.mp h6 _
 ·rw [if_pos (by simpa [st_e] using he)]
  refine ⟨e,0,[],rfl,⟨h2.1,fun h0=>?_⟩,by simp⟩
  have h4:=h2.2 h0
  unfold pl at h4
  cases hf:fi s m.f_chans with
  | some i=>rw [hf] at h4;exact absurd h4.1 he
  | none =>
   rw [hf] at h4
   have e1:mCh (kx m) z0b.To s=.er 8:=by
    unfold mCh
    show (match fi s m.f_chans with|none=>_|some i=>match m.f_p.Chans[i]?,m.f_s.Chans[i]? with|some c,some a=>_|_,_=>_)=_
    rw [hf]
   rw [e1]
   exact h4
abbrev noE:z0v:=⟨0,0,0,[]⟩
abbrev noC:z60:=⟨0,noE,noE⟩
mutual
def mS (k:K):z05→X z0h
 | .mk d n t e c b l a =>
  if d=1 then (pl k.V n).bd fun v=>(mE k.V e).mp fun x=>.mk d v 0 0 x noC [] [] []
  else if d=7 then (pl k.V n).mp fun v=>.mk d v 0 0 noE noC [] [] []
  else if d=6 then (mC k.V c).mp fun x=>.mk d 0 0 0 noE x [] [] []
  else if d=3 then (mC k.V c).bd fun x=>(mL k b).mp fun y=>.mk d 0 0 0 noE x y [] []
  else if d=2 then (mC k.V c).bd fun x=>(mL k b).bd fun y=>(mL k l).mp fun z=>.mk d 0 0 0 noE x y z []
  else if d=4 then (mCh k z0b.From n).bd fun q=>(pl q.2 t).bd fun u=>(mE k.V e).mp fun x=>.mk d 0 q.1 u x noC [] [] []
  else if d=5 then (mCh k z0b.To n).bd fun q=>(mA k q.2 [] a).mp fun y=>.mk d 0 q.1 0 noE noC [] [] y
  else .ok (.mk d 0 0 0 noE noC [] [] [])
def mL (k:K):List z05→X (List z0h)
 | []=>.ok []
 | s::r=>(mS k s).bd fun x=>(mL k r).mp (x::·)
def mA (k:K) (tags had:List ByteArray):List z1r→X (List z40)
 | []=>.ok []
 | .mk t v b::r=>(pl tags t).bd fun x=>(X.must (!(fi t had).isSome) 7).bd fun _=>(pl k.V v).bd fun y=>(mL k b).bd fun l=>(mA k tags (had++[t]) r).mp (.mk x y l::·)
end
theorem zzi (k:K):∀ l,mL k l=mapX (mS k) l
 | []=>by simp only [mL,mapX]
 | e::r=>by simp only [mL,mapX,zzi k r]
theorem zv8:∀ l:List z05,l.length≤szL l
 | []=>by simp
 | s::r=>by have:=zv8 r;cases s;simp only [szL,szS,List.length_cons];omega
theorem zv9:∀ {l:List z05} {x:z05},x∈l→szS x+1≤szL l
 | y::r,x,h=>by
  have:=z93 r
  rcases List.mem_cons.1 h with rfl|h
  ·simp only [szL];omega
  ·have:=zv9 h;simp only [szL];omega
theorem zva:∀ l:List z1r,l.length≤szA l
 | []=>by simp
 | .mk t v b::r=>by have:=zva r;simp only [szA,List.length_cons];omega
theorem z03k (m:z01) (l:List ByteArray) (s:ByteArray) (hl:l.length≤400000000000):∃ e,z6g m l s=some (st m e,l++[s],l++[s])∧Tl m.f_e (X.must (!(fi s l).isSome) 7) e ():=by
 unfold z6g
 rw [zmi s hl,obs,zv6]
 obtain ⟨e,h1,h2⟩:=zbi m (!(fi s l).isSome) 7 (by decide)
 rw [h1,obs,z82 (by simp;omega),obs]
 exact ⟨e,rfl,h2⟩
theorem z08d {m:z01} (hw:Wf m) (s:z05) (v1:z01 × Int × List ByteArray) (ht:v1.2.2.length≤400000000000) (hsz:szA s.Arms≤400000000000) {H:Nat}
  (hb:∀ (x:z1r),x∈s.Arms→∀ e0,∃ e v,(∀ n,Sn n H (z1k n (st m e0) x.Body) (st m e,v))∧Tl e0 (mL (kx m) x.Body) e v) :
  ∀ (l:List z1r) (i:Nat) (e0:Int) (had:List ByteArray) (acc:List z40),s.Arms.drop i=l→i≤s.Arms.length→acc.length=i→had.length=i →
   ∃ e vs,(∀ n,Sn n H (iter (z7d (z1k n) (z1u n) (z38 n) m s v1) ((i:Int),e0,had,acc)) (.inr (e,acc++vs)))∧Tl e0 (mA (kx m) v1.2.2 had l) e vs:=by
 have hlen:=zva s.Arms
 intro l
 induction l with
 | nil =>
  intro i e0 had acc hd hi ha hh
  have:i=s.Arms.length:=by have:=List.drop_eq_nil_iff.1 hd;omega
  subst this
  refine ⟨e0,[],fun n=>.inl ?_,?_⟩
  ·rw [z4r (r:=.inr (e0,acc))]
   ·simp
   ·unfold z7d;rw [if_neg (by simp)]
  ·simp only [mA];exact Tl.pure _ _
 | cons x r ih =>
  intro i e0 had acc hd hi ha hh
  have hlt:i<s.Arms.length:=by
   refine Nat.lt_of_not_le fun h=>?_
   rw [List.drop_of_length_le h] at hd;cases hd
  rw [List.drop_eq_getElem_cons hlt] at hd
  injection hd with h1 h2
  have hi2:idx s.Arms (i:Int)=some x:=by rw [z9m hlt,h1]
  have hm:x∈s.Arms:=by rw [← h1];exact List.getElem_mem hlt
  have hwr:IntKind.i64.wrap ((i:Int)+1)=((i+1:Nat):Int):=by rw [w64 (by omega) (by omega)];omega
  obtain ⟨e1,t1,a1,a2,_⟩:=zef (st m e0) x.Tag ht
  obtain ⟨e2,b1,b2⟩:=z03k (st m e1) had x.Tag (by omega)
  obtain ⟨e3,t3,c1,c2,_⟩:=zef (st m e2) (l:=m.f_vars) x.Var hw.v
  obtain ⟨e4,t4,d1,d2⟩:=hb x hm e3
  obtain ⟨e5,vs,f1,f2⟩:=ih (i+1) e4 (had++[x.Tag]) (acc++[.mk t1 t3 t4]) h2 hlt (by simp;omega) (by simp;omega)
  refine ⟨e5,.mk t1 t3 t4::vs,fun n=>?_,?_⟩
  ·rw [zcd]
   refine Sn.bind (r:=.inl (((i+1:Nat):Int),e4,had++[x.Tag],acc++[.mk t1 t3 t4])) ?_ ?_
   ·unfold z7d
    rw [if_pos (by simpa using hlt)]
    show Sn n H (idx s.Arms (i:Int)>>=_) _
    rw [hi2,obs]
    show Sn n H (z2o (st m e0) v1.2.2 x.Tag>>=_) _
    rw [a1,obs]
    show Sn n H (z6g (st m e1) had x.Tag>>=_) _
    rw [b1,obs]
    show Sn n H (z2o (st m e2) m.f_vars x.Var>>=_) _
    rw [c1,obs]
    refine Sn.bind (d1 n) (.inl ?_)
    rw [z82 (by simp;omega),obs]
    dsimp only
    rw [hwr];rfl
   ·have:=f1 n
    simpa using this
  ·cases x with
   | mk t v b =>
    simp only [mA]
    exact a2.bd (b2.bd (c2.bd (d2.bd (f2.mp _))))
theorem zmj (k:Int) (n t:ByteArray) (e:z06) (c:z4j) (b l:List z05) (a:List z1r):(z05.mk k n t e c b l a).Arms=a:=rfl
theorem nk (d j:Int) (h:(d==j)=false) {n t:ByteArray} {e:z06} {c:z4j} {b l:List z05} {a:List z1r}:¬ (((z05.mk d n t e c b l a).Kind==j)=true):=by
 show ¬ ((d==j)=true)
 rw [h];decide
theorem zvb:∀ {l:List z1r} {x:z1r},x∈l→szL x.Body+3≤szA l
 | .mk t v b::r,x,h=>by
  have hp:1≤szA r:=by cases r with
   | nil=>simp [szA]
   | cons y r=>cases y;simp only [szA];omega
  rcases List.mem_cons.1 h with rfl|h
  ·simp only [szA];show szL b+3≤_;omega
  ·have:=zvb h;simp only [szA];omega
theorem mL_f:∀ (N:Nat) (l:List z05),szL l≤N→N≤400000000000→∀ m:z01,Wf m→∃ e v,(∀ n,Sn n (szL l) (z1k n m l) (st m e,v))∧Tl m.f_e (mL (kx m) l) e v:=by
 intro N
 induction N with
 | zero=>intro l h;have:=z93 l;omega
 | succ N ih =>
  intro l h hN m hw
  have stm:∀ (s:z05),szS s≤N→∀ m:z01,Wf m→∃ e v,(∀ n,Sn n (szS s) (z1u n m s) (st m e,v))∧Tl m.f_e (mS (kx m) s) e v:=by
   intro s hs m hw
   obtain ⟨d,nm,t,e,c,b,el,a⟩:=s
   have hz:szS (.mk d nm t e c b el a)=4+szE e+szC c+szL b+szL el+szA a:=by simp only [szS]
   have p1:=z93 b
   have p2:=z93 el
   have z0:∀ {r:z01 × z0h},Sn 0 (szS (.mk d nm t e c b el a)) (z1u 0 m (.mk d nm t e c b el a)) r:=fun {r}=>.inr ⟨rfl,by omega⟩
   by_cases k1:d=1
   ·subst k1
    obtain ⟨e1,v1,a1,a2,_⟩:=zef m nm hw.v
    obtain ⟨e2,v2,b1,b2⟩:=zjd (st m e1) (x:=e) (by omega) hw.v
    refine ⟨e2,.mk 1 v1 0 0 v2 noC [] [] [],fun n=>?_,?_⟩
    ·cases n with
     | zero=>exact z0
     | succ n =>
      refine .inl ?_
      simp only [z1u]
      rw [if_pos (by rfl)]
      show z2o m m.f_vars nm>>=_=_
      rw [a1,obs]
      show z68 (st m e1) e>>=_=_
      rw [b1];rfl
    ·simp only [mS];rw [if_pos trivial];exact a2.bd (b2.mp _)
   by_cases k7:d=7
   ·subst k7
    obtain ⟨e1,v1,a1,a2,_⟩:=zef m nm hw.v
    refine ⟨e1,.mk 7 v1 0 0 noE noC [] [] [],fun n=>?_,?_⟩
    ·cases n with
     | zero=>exact z0
     | succ n =>
      refine .inl ?_
      simp only [z1u]
      rw [if_neg (nk 7 1 (by decide)),if_pos (by rfl)]
      show z2o m m.f_vars nm>>=_=_
      rw [a1];rfl
    ·simp only [mS];rw [if_neg (by decide),if_pos trivial];exact a2.mp _
   by_cases k6:d=6
   ·subst k6
    obtain ⟨e1,v1,a1,a2⟩:=zo5 m (c:=c) (by omega) hw.v
    refine ⟨e1,.mk 6 0 0 0 noE v1 [] [] [],fun n=>?_,?_⟩
    ·cases n with
     | zero=>exact z0
     | succ n =>
      refine .inl ?_
      simp only [z1u]
      rw [if_neg (nk 6 1 (by decide)),if_neg (nk 6 7 (by decide)),if_pos (by rfl)]
      show z5z m c>>=_=_
      rw [a1];rfl
    ·simp only [mS];rw [if_neg (by decide),if_neg (by decide),if_pos trivial];exact a2.mp _
   by_cases k3:d=3
   ·subst k3
    obtain ⟨e1,v1,a1,a2⟩:=zo5 m (c:=c) (by omega) hw.v
    obtain ⟨e2,v2,b1,b2⟩:=ih b (by omega) (by omega) (st m e1) (hw.st e1)
    refine ⟨e2,.mk 3 0 0 0 noE v1 v2 [] [],fun n=>?_,?_⟩
    ·cases n with
     | zero=>exact z0
     | succ n =>
      simp only [z1u]
      rw [if_neg (nk 3 1 (by decide)),if_neg (nk 3 7 (by decide)),if_neg (nk 3 6 (by decide)),if_pos (by rfl)]
      show Sn (n+1) _ (z5z m c>>=_) _
      rw [a1,obs]
      show Sn (n+1) _ (z1k n (st m e1) b>>=_) _
      exact Sn.bind ((b1 n).up.mono (by omega)) (.inl rfl)
    ·simp only [mS];rw [if_neg (by decide),if_neg (by decide),if_neg (by decide),if_pos trivial];exact a2.bd (b2.mp _)
   by_cases k2:d=2
   ·subst k2
    obtain ⟨e1,v1,a1,a2⟩:=zo5 m (c:=c) (by omega) hw.v
    obtain ⟨e2,v2,b1,b2⟩:=ih b (by omega) (by omega) (st m e1) (hw.st e1)
    obtain ⟨e3,v3,c1,c2⟩:=ih el (by omega) (by omega) (st m e2) (hw.st e2)
    refine ⟨e3,.mk 2 0 0 0 noE v1 v2 v3 [],fun n=>?_,?_⟩
    ·cases n with
     | zero=>exact z0
     | succ n =>
      simp only [z1u]
      rw [if_neg (nk 2 1 (by decide)),if_neg (nk 2 7 (by decide)),if_neg (nk 2 6 (by decide)),if_neg (nk 2 3 (by decide)),if_pos (by rfl)]
      show Sn (n+1) _ (z5z m c>>=_) _
      rw [a1,obs]
      show Sn (n+1) _ (z1k n (st m e1) b>>=_) _
      refine Sn.bind ((b1 n).up.mono (by omega)) ?_
      show Sn (n+1) _ (z1k n (st m e2) el>>=_) _
      exact Sn.bind ((c1 n).up.mono (by omega)) (.inl rfl)
    ·simp only [mS];rw [if_neg (by decide),if_neg (by decide),if_neg (by decide),if_neg (by decide),if_pos trivial];exact a2.bd (b2.bd (c2.mp _))
   by_cases k4:d=4
   ·subst k4
    obtain ⟨e1,cc,tt,a1,a2,a3⟩:=z08c hw nm
    obtain ⟨e2,v2,b1,b2,_⟩:=zef (st m e1) t a3
    obtain ⟨e3,v3,c1,c2⟩:=zjd (st m e2) (x:=e) (by omega) hw.v
    refine ⟨e3,.mk 4 0 cc v2 v3 noC [] [] [],fun n=>?_,?_⟩
    ·cases n with
     | zero=>exact z0
     | succ n =>
      refine .inl ?_
      simp only [z1u]
      rw [if_neg (nk 4 1 (by decide)),if_neg (nk 4 7 (by decide)),if_neg (nk 4 6 (by decide)),if_neg (nk 4 3 (by decide)),if_neg (nk 4 2 (by decide)),if_pos (by rfl)]
      unfold zbn
      show ((z4k m nm>>=_)>>=_)=_
      rw [a1,obs]
      show ((z2o (st m e1) tt t>>=_)>>=_)=_
      rw [b1,obs]
      show ((z68 (st m e2) e>>=_)>>=_)=_
      rw [c1];rfl
    ·simp only [mS];rw [if_neg (by decide),if_neg (by decide),if_neg (by decide),if_neg (by decide),if_neg (by decide),if_pos trivial];exact a2.bd (b2.bd (c2.mp _))
   by_cases k5:d=5
   ·subst k5
    obtain ⟨e1,cc,tt,a1,a2,a3⟩:=to_f hw nm
    obtain ⟨e2,vs,b1,b2⟩:=z08d hw (.mk 5 nm t e c b el a) (st m e1,cc,tt) a3 (by rw [zmj];omega) (H:=szA a) (fun x hx e0=>by
     rw [zmj] at hx
     have:=zvb hx
     obtain ⟨e',v,q1,q2⟩:=ih x.Body (by omega) (by omega) (st m e0) (hw.st e0)
     exact ⟨e',v,fun n=>(q1 n).mono (by omega),q2⟩) a 0 e1 [] [] rfl (by omega) rfl rfl
    refine ⟨e2,.mk 5 0 cc 0 noE noC [] [] vs,fun n=>?_,?_⟩
    ·cases n with
     | zero=>exact z0
     | succ n =>
      simp only [z1u]
      rw [if_neg (nk 5 1 (by decide)),if_neg (nk 5 7 (by decide)),if_neg (nk 5 6 (by decide)),if_neg (nk 5 3 (by decide)),if_neg (nk 5 2 (by decide)),if_neg (nk 5 4 (by decide)),if_pos (by rfl)]
      refine Sn.bind (r:=(st m e2,.mk 5 0 cc 0 noE noC [] [] vs)) ?_ (.inl rfl)
      cases n with
      | zero=>exact .inr ⟨by simp only [z38],by omega⟩
      | succ n =>
       simp only [z38]
       show Sn (n+1+1) _ (z4x m nm>>=_) _
       rw [a1,obs]
       refine Sn.bind (((b1 n).up.up).mono (by omega)) (.inl ?_)
       simp only [List.nil_append]
       rfl
    ·simp only [mS];rw [if_neg (by decide),if_neg (by decide),if_neg (by decide),if_neg (by decide),if_neg (by decide),if_neg (by decide),if_pos trivial];exact a2.bd (b2.mp _)
   refine ⟨m.f_e,.mk d 0 0 0 noE noC [] [] [],fun n=>?_,?_⟩
   ·cases n with
    | zero=>exact z0
    | succ n =>
     refine .inl ?_
     simp only [z1u]
     rw [if_neg (nk d 1 (by simpa using k1)),if_neg (nk d 7 (by simpa using k7)),if_neg (nk d 6 (by simpa using k6)),if_neg (nk d 3 (by simpa using k3)),if_neg (nk d 2 (by simpa using k2)),if_neg (nk d 4 (by simpa using k4)),if_neg (nk d 5 (by simpa using k5))]
     rfl
   ·simp only [mS];rw [if_neg k1,if_neg k7,if_neg k6,if_neg k3,if_neg k2,if_neg k4,if_neg k5];exact Tl.pure _ _
  have hlen:=zv8 l
  have hp:=z93 l
  obtain ⟨e1,vs,h1,h2⟩:=z05r (body:=fun n=>z64 (z1k n) (z1u n) (z38 n) m l) (H:=szL l - 1) (mS (kx m)) l (by omega) (fun i x acc hi hx hm ha hwr=>by
   have hmx:=zv9 hm
   obtain ⟨e',v,q1,q2⟩:=stm x (by omega) (st m 0) (hw.st 0)
   refine ⟨e',v,fun n=>?_,q2⟩
   unfold z64
   rw [if_pos (by simpa using hi)]
   show Sn n _ (idx l (i:Int)>>=_) _
   rw [hx,obs,if_neg (by simp)]
   refine Sn.bind ((q1 n).mono (by omega)) (.inl ?_)
   rw [z82 (by simp;omega),obs]
   dsimp only
   rw [hwr];rfl) (fun n i e acc hi he=>by
   unfold z64
   rw [if_pos (by simpa using hi)]
   show (idx l (i:Int)>>=_)=_
   rw [z9m hi,obs,if_pos (by simpa using he)]) (fun n e acc=>by
   unfold z64
   rw [if_neg (by simp)]) m.f_e
  refine ⟨e1,vs,fun n=>?_,by rw [zzi];exact h2⟩
  cases n with
  | zero=>exact .inr ⟨by simp only [z1k],by omega⟩
  | succ n =>
   simp only [z1k]
   refine Sn.bind ((h1 n).up.mono (by omega)) (.inl rfl)
theorem ztm {m:z01} (hw:Wf m) {l:List z05} (h:szL l≤400000000000):∃ e v,zb0 m l=some (st m e,v)∧Tl m.f_e (mL (kx m) l) e v:=by
 obtain ⟨e,v,h1,h2⟩:=mL_f _ l (Nat.le_refl _) h m hw
 exact ⟨e,v,Sn.unf h1,h2⟩
def fX {α β:Type} (f:α→β→X α) (x:X α) (l:List β):X α:=l.foldl (fun x b=>x.bd fun a=>f a b) x
theorem zh7 {α β:Type} (f:α→β→X α) (x:X α) (l:List β) (b:β):fX f x (l++[b])=(fX f x l).bd fun a=>f a b:=by simp [fX]
theorem lp {β σ O R:Type} {body:Int × σ→Option (Sum (Int × σ) (Sum O R))} {out:σ→R} (a1:List β) (hlen:a1.length≤400000000000) (I:Nat→σ→Prop)
  (hs:∀ (i:Nat) x s,(h:i<a1.length)→idx a1 (i:Int)=some x→x∈a1→a1.take (i+1)=a1.take i++[x]→a1.drop i=x::a1.drop (i+1)→IntKind.i64.wrap ((i:Int)+1)=((i+1:Nat):Int)→I i s→∃ s',body ((i:Int),s)=some (.inl (((i+1:Nat):Int),s'))∧I (i+1) s')
  (he:∀ s,body ((a1.length:Int),s)=some (.inr (.inr (out s)))) {s0:σ} (h0:I 0 s0):∃ s,iter body (0,s0)=some (.inr (out s))∧I a1.length s:=by
 have key:∀ (k i:Nat) (s:σ),a1.length - i=k→i≤a1.length→I i s→∃ s',iter body ((i:Int),s)=some (.inr (out s'))∧I a1.length s':=by
  intro k
  induction k with
  | zero =>
   intro i s hk hi hI
   have:i=a1.length:=by omega
   subst this
   exact ⟨s,z4r (he s),hI⟩
  | succ k ih =>
   intro i s hk hi hI
   have hlt:i<a1.length:=by omega
   have hw:IntKind.i64.wrap ((i:Int)+1)=((i+1:Nat):Int):=by rw [w64 (by omega) (by omega)];omega
   obtain ⟨s',h1,h2⟩:=hs i a1[i] s hlt (z9m hlt) (List.getElem_mem hlt) (by simp) (List.drop_eq_getElem_cons hlt) hw hI
   obtain ⟨s2,h3,h4⟩:=ih (i+1) s' (by omega) hlt h2
   exact ⟨s2,by rw [z9w h1];exact h3,h4⟩
 exact key _ 0 s0 rfl (by omega) h0
def mAd (had:List ByteArray) (s:ByteArray):X (List ByteArray):=(X.must (!(fi s had).isSome) 7).mp fun _=>had++[s]
def mAp (l:List ByteArray):X (List ByteArray):=fX mAd (.ok []) l
theorem z0a8 (m:z01) (s:ByteArray) (hl:m.f_chans.length≤400000000000):∃ e,z9d m s=some (z01.mk m.f_s m.f_p [] m.f_procs m.f_proc m.f_vars e,m.f_chans++[s])∧Tl m.f_e (X.must (!(fi s m.f_chans).isSome) 7) e ():=by
 unfold z9d
 rw [zmi s hl,obs,zv6]
 obtain ⟨e,h1,h2⟩:=zbi m (!(fi s m.f_chans).isSome) 7 (by decide)
 rw [h1,obs,z82 (by simp;omega),obs]
 exact ⟨e,rfl,h2⟩
theorem z08e (m:z01) (s:ByteArray) (hl:m.f_procs.length≤400000000000):∃ e,z86 m s=some (z01.mk m.f_s m.f_p m.f_chans [] m.f_proc m.f_vars e,m.f_procs++[s])∧Tl m.f_e (X.must (!(fi s m.f_procs).isSome) 7) e ():=by
 unfold z86
 rw [zmi s hl,obs,zv6]
 obtain ⟨e,h1,h2⟩:=zbi m (!(fi s m.f_procs).isSome) 7 (by decide)
 rw [h1,obs,z82 (by simp;omega),obs]
 exact ⟨e,rfl,h2⟩
theorem zzj (m:z01) (l:List ByteArray) (hl:l.length≤400000000):∃ e v,z6h m l=some (st m e)∧Tl m.f_e (mAp l) e v∧v=l:=by
 unfold z6h
 obtain ⟨s,h1,h2,h3⟩:=lp (body:=z6u m l) (out:=fun s:Int × List ByteArray=>s.1) l (by omega) (fun i s=>Tl m.f_e (fX mAd (.ok []) (l.take i)) s.1 s.2∧s.2=l.take i)
  (fun i x s h hi hm ht hd hw hI=>by
   obtain ⟨e,had⟩:=s
   obtain ⟨hI,rfl⟩:=hI
   obtain ⟨e1,a1,a2⟩:=z03k (st m e) (l.take i) x (by simp;omega)
   refine ⟨(e1,l.take i++[x]),?_,?_,ht.symm⟩
   ·unfold z6u
    rw [if_pos (by simpa using h),hi,obs]
    show z6g (st m e) (l.take i) x>>=_=_
    rw [a1,obs]
    try dsimp only
    rw [hw];rfl
   ·rw [ht,zh7]
    exact hI.bd (a2.mp fun _=>l.take i++[x]))
  (fun s=>by unfold z6u;rw [if_neg (by simp)]) (s0:=(m.f_e,[])) ⟨by simpa [fX] using Tl.pure _ _,by simp⟩
 rw [h1]
 refine ⟨s.1,s.2,rfl,?_,by rw [h3];simp⟩
 rw [List.take_length] at h2;exact h2
theorem z01z (m:z01) (b:Bool) {k:Int} (hk:k≠0):∃ e,(z15 m b k>>=fun v=>some v.f_e)=some e∧Tl m.f_e (X.must b k) e ():=by
 obtain ⟨e,h1,h2⟩:=zbi m b k hk
 exact ⟨e,by rw [h1];rfl,h2⟩
theorem if2 {a b:Bool} {m:z01} {x:Option Int} {k:Int} (hk:k≠0) (hx:∃ e,x=some e∧Tl m.f_e (X.must b k) e ()):∃ e,(if a=true then x else z15 m false k>>=fun v=>some v.f_e)=some e∧Tl m.f_e (X.must (a&&b) k) e ():=by
 cases a with
 | true=>obtain ⟨e,h1,h2⟩:=hx;exact ⟨e,by rw [if_pos rfl];exact h1,by simpa using h2⟩
 | false =>
  obtain ⟨e,h1,h2⟩:=z01z m false hk
  exact ⟨e,by rw [if_neg (by decide)];exact h1,by simpa using h2⟩
def ch0 (c:z29):z0b:=⟨c.Kind,c.Size,0,0,(c.Tags.length:Int),[]⟩
def mDe (N:List ByteArray) (c:z29):X (List ByteArray):=(X.must (!(fi c.Name N).isSome) 7).bd fun _=>(X.must (decide (c.Size≥1)&&(decide (c.Size≤16)&&decide ((c.Tags.length:Int)≤4))) 10).bd fun _=>(mAp c.Tags).mp fun _=>N++[c.Name]
def zos (l:List z29):X (List ByteArray):=(X.must (decide ((l.length:Int)≤4)) 10).bd fun _=>fX mDe (.ok []) l
theorem zzk (s:z18) (hl:s.Chans.length≤400000000) (ht:∀ c∈s.Chans,c.Tags.length≤400000000) :
  ∃ e,z8c (z01.mk s ⟨[],[]⟩ [] [] 0 [] 0)=some (z01.mk s ⟨s.Chans.map ch0,[]⟩ (s.Chans.map (·.Name)) [] 0 [] e)∧Tl 0 (zos s.Chans) e (s.Chans.map (·.Name)):=by
 unfold z8c
 obtain ⟨e0,g1,g2⟩:=zbi (z01.mk s ⟨[],[]⟩ [] [] 0 [] 0) (decide ((s.Chans.length:Int)≤4)) 10 (by decide)
 rw [g1,obs]
 obtain ⟨z,h1,h2,h3,h4⟩:=lp (body:=z66 (z01.mk s ⟨[],[]⟩ [] [] 0 [] 0)) (out:=fun s:Int × List z0b × List ByteArray=>s) s.Chans (by omega)
  (fun i z=>Tl e0 (fX mDe (.ok []) (s.Chans.take i)) z.1 z.2.2∧z.2.1=(s.Chans.take i).map ch0∧z.2.2=(s.Chans.take i).map (·.Name))
  (fun i x z h hi hm htk hd hw hI=>by
   obtain ⟨e,P,N⟩:=z
   obtain ⟨hI,hP,hN⟩:=hI
   dsimp only at hI hP hN
   have hNl:N.length=i:=by rw [hN];simp;omega
   have hPl:P.length=i:=by rw [hP];simp;omega
   obtain ⟨e1,a1,a2⟩:=z0a8 (z01.mk s ⟨P,[]⟩ N [] 0 [] e) x.Name (by show N.length≤_;omega)
   have mm:z01:=z01.mk s ⟨P,[]⟩ (N++[x.Name]) [] 0 [] e1
   obtain ⟨e2,b1,b2⟩:=if2 (a:=decide (x.Size≥1)) (m:=z01.mk s ⟨P,[]⟩ (N++[x.Name]) [] 0 [] e1) (k:=10) (by decide) (if2 (a:=decide (x.Size≤16)) (k:=10) (by decide) (z01z _ (decide ((x.Tags.length:Int)≤4)) (by decide)))
   obtain ⟨e3,v3,c1,c2,c3⟩:=zzj (z01.mk s ⟨P,[]⟩ (N++[x.Name]) [] 0 [] e2) x.Tags (ht x hm)
   refine ⟨(e3,P++[ch0 x],N++[x.Name]),?_,?_,?_,?_⟩
   ·unfold z66
    rw [if_pos (by simpa using h)]
    show idx s.Chans (i:Int)>>=_=_
    rw [hi,obs]
    show z9d (z01.mk s ⟨P,[]⟩ N [] 0 [] e) x.Name>>=_=_
    rw [a1,obs]
    refine (congrArg (·>>=_) b1).trans ?_
    rw [obs]
    show z6h (z01.mk s ⟨P,[]⟩ (N++[x.Name]) [] 0 [] e2) x.Tags>>=_=_
    rw [c1,obs,z82 (by simp;omega),obs]
    try dsimp only
    rw [hw];rfl
   ·rw [htk,zh7]
    exact hI.bd (a2.bd (b2.bd (c2.mp fun _=>N++[x.Name])))
   ·simp [htk,hP]
   ·simp [htk,hN])
  (fun s=>by unfold z66;rw [if_neg (by simp)]) (s0:=(e0,[],[])) ⟨by simpa [fX] using Tl.pure _ _,by simp,by simp⟩
 refine ⟨z.1,?_,?_⟩
 ·refine (congrArg (·>>=_) h1).trans ?_
  rw [List.take_length] at h3 h4
  rw [obs]
  simp [h3,h4]
 ·rw [List.take_length] at h2 h4
  rw [← h4]
  exact g2.bd h2
def ch1 (procs:List ByteArray) (c:z29):X z0b:=(pl procs c.From).bd fun f=>(pl procs c.To).bd fun t=>(X.must (f != t) 9).mp fun _=>⟨c.Kind,c.Size,f,t,(c.Tags.length:Int),[]⟩
def mCs (procs:List ByteArray) (acc:List z0b) (c:z29):X (List z0b):=(ch1 procs c).mp fun x=>acc++[x]
def zo6 (s:z18):X (List ByteArray × List z0b):=(X.must (decide ((s.Procs.length:Int)≥1)&&decide ((s.Procs.length:Int)≤4)) 10).bd fun _ =>
 (mAp (s.Procs.map (·.Name))).bd fun N=>(fX (mCs N) (.ok []) s.Chans).mp fun l=>(N,l)
theorem zzl {α:Type} (a:List α) (x y:α) (b:List α) {i:Nat} (h:a.length=i):seti (a++x::b) (i:Int) y=a++y::b:=by
 subst h;unfold seti;simp
theorem zzm {α:Type} (a:List α) (x:α) (b:List α) {i:Nat} (h:a.length=i):idx (a++x::b) (i:Int)=some x:=by
 subst h;unfold idx;rw [if_pos (by omega)];simp
theorem z08f (s:z18) (N:List ByteArray) (e0:Int) (hl:s.Chans.length≤400000000) (hp:s.Procs.length≤400000000) :
  ∃ e L,z9z (z01.mk s ⟨s.Chans.map ch0,[]⟩ N [] 0 [] e0)=some (z01.mk s ⟨L,[]⟩ N (s.Procs.map (·.Name)) 0 [] e)∧Tl e0 (zo6 s) e (s.Procs.map (·.Name),L):=by
 unfold z9z
 obtain ⟨e1,a1,a2⟩:=if2 (a:=decide ((s.Procs.length:Int)≥1)) (m:=z01.mk s ⟨s.Chans.map ch0,[]⟩ N [] 0 [] e0) (k:=10) (by decide) (z01z _ (decide ((s.Procs.length:Int)≤4)) (by decide))
 have hap:∀ i,fX mAd (.ok []) ((s.Procs.map (·.Name)).take i)=fX mAd (.ok []) ((s.Procs.take i).map (·.Name)):=fun i=>by rw [List.map_take]
 obtain ⟨z,h1,h2,h3⟩:=lp (body:=z79 (z01.mk s ⟨s.Chans.map ch0,[]⟩ N [] 0 [] e0)) (out:=fun s:Int × List ByteArray=>s) s.Procs (by omega)
  (fun i z=>Tl e1 (fX mAd (.ok []) ((s.Procs.take i).map (·.Name))) z.1 z.2∧z.2=(s.Procs.take i).map (·.Name))
  (fun i x z h hi hm htk hd hw hI=>by
   obtain ⟨e,P⟩:=z
   obtain ⟨hI,hP⟩:=hI
   dsimp only at hI hP
   have hPl:P.length=i:=by rw [hP];simp;omega
   obtain ⟨e2,b1,b2⟩:=z08e (z01.mk s ⟨s.Chans.map ch0,[]⟩ N P 0 [] e) x.Name (by show P.length≤_;omega)
   refine ⟨(e2,P++[x.Name]),?_,?_,?_⟩
   ·unfold z79
    rw [if_pos (by simpa using h)]
    show idx s.Procs (i:Int)>>=_=_
    rw [hi,obs]
    show z86 (z01.mk s ⟨s.Chans.map ch0,[]⟩ N P 0 [] e) x.Name>>=_=_
    rw [b1,obs]
    try dsimp only
    rw [hw]
   ·rw [htk,List.map_append,List.map_cons,List.map_nil,zh7]
    exact hI.bd (b2.mp fun _=>P++[x.Name])
   ·simp [htk,hP])
  (fun s=>by unfold z79;rw [if_neg (by simp)]) (s0:=(e1,[])) ⟨by simpa [fX] using Tl.pure _ _,by simp⟩
 obtain ⟨e2,P⟩:=z
 rw [List.take_length] at h2 h3
 dsimp only at h2 h3
 have hPl:P.length=s.Procs.length:=by rw [h3];simp
 obtain ⟨y,q1,D,q2,q3,q4⟩:=lp (body:=z7a (z01.mk s ⟨s.Chans.map ch0,[]⟩ N [] 0 [] e0) (e2,P)) (out:=fun s:Int × List z0b=>s) s.Chans (by omega)
  (fun i z=>∃ D:List z0b,D.length=i∧z.2=D++(s.Chans.drop i).map ch0∧Tl e2 (fX (mCs P) (.ok []) (s.Chans.take i)) z.1 D)
  (fun i x z h hi hm htk hd hw hI=>by
   obtain ⟨e,L⟩:=z
   obtain ⟨D,hD,hL,hI⟩:=hI
   dsimp only at hI hL
   rw [hd,List.map_cons] at hL
   obtain ⟨e3,f,b1,b2,_⟩:=zzg (z01.mk s ⟨L,[]⟩ N P 0 [] e) x.From (by show P.length≤_;omega)
   obtain ⟨e4,t,c1,c2,_⟩:=zzg (z01.mk s ⟨D++⟨x.Kind,x.Size,f,0,(x.Tags.length:Int),[]⟩::(s.Chans.drop (i+1)).map ch0,[]⟩ N P 0 [] e3) x.To (by show P.length≤_;omega)
   obtain ⟨e5,d1,d2⟩:=zbi (z01.mk s ⟨D++⟨x.Kind,x.Size,f,t,(x.Tags.length:Int),[]⟩::(s.Chans.drop (i+1)).map ch0,[]⟩ N P 0 [] e4) (f != t) 9 (by decide)
   refine ⟨(e5,D++⟨x.Kind,x.Size,f,t,(x.Tags.length:Int),[]⟩::(s.Chans.drop (i+1)).map ch0),?_,D++[⟨x.Kind,x.Size,f,t,(x.Tags.length:Int),[]⟩],by simp [hD],by simp,?_⟩
   ·unfold z7a
    rw [if_pos (by simpa using h)]
    show idx s.Chans (i:Int)>>=_=_
    rw [hi,obs]
    show idx L (i:Int)>>=_=_
    rw [hL,zzm _ _ _ hD,obs,← hL]
    show z78 (z01.mk s ⟨L,[]⟩ N P 0 [] e) x.From>>=_=_
    rw [b1,obs]
    try dsimp only
    rw [hL,zzl _ _ _ _ hD]
    show z78 (z01.mk s ⟨D++⟨x.Kind,x.Size,f,0,(x.Tags.length:Int),[]⟩::(s.Chans.drop (i+1)).map ch0,[]⟩ N P 0 [] e3) x.To>>=_=_
    rw [c1,obs]
    try dsimp only
    rw [zzm _ _ _ hD,obs]
    try dsimp only
    rw [zzl _ _ _ _ hD,zzm _ _ _ hD,obs]
    show z15 (z01.mk s ⟨D++⟨x.Kind,x.Size,f,t,(x.Tags.length:Int),[]⟩::(s.Chans.drop (i+1)).map ch0,[]⟩ N P 0 [] e4) (f != t) 9>>=_=_
    rw [d1,obs]
    try dsimp only
    rw [hw];rfl
   ·rw [htk,zh7]
    exact hI.bd ((b2.bd (c2.bd (d2.mp fun _=>(⟨x.Kind,x.Size,f,t,(x.Tags.length:Int),[]⟩:z0b)))).mp fun y=>D++[y]))
  (fun s=>by unfold z7a;rw [if_neg (by simp)]) (s0:=(e2,s.Chans.map ch0)) ⟨[],rfl,by simp,by simpa [fX] using Tl.pure _ _⟩
 rw [List.take_length] at q4
 rw [List.drop_length,List.map_nil,List.append_nil] at q3
 refine ⟨y.1,y.2,?_,?_⟩
 ·refine (congrArg (·>>=_) a1).trans ?_
  rw [obs]
  refine (congrArg (·>>=_) h1).trans ?_
  rw [obs]
  refine (congrArg (·>>=_) q1).trans ?_
  rw [obs]
  simp [h3]
 ·rw [q3]
  have:zo6 s=(X.must (decide ((s.Procs.length:Int)≥1)&&decide ((s.Procs.length:Int)≤4)) 10).bd fun _=>(mAp (s.Procs.map (·.Name))).bd fun N=>(fX (mCs N) (.ok []) s.Chans).mp fun l=>(N,l):=rfl
  rw [this]
  refine a2.bd (Tl.bd (v:=P) h2 ?_)
  rw [← h3]
  exact q4.mp fun l=>(P,l)
theorem z0a9 {k:Nat} (h:k≤4):bits_Mul (IntKind.u64.wrap 1) (IntKind.u64.wrap (k:Int))=some (0,(k:Int)):=by
 have:k=0∨k=1∨k=2∨k=3∨k=4:=by omega
 rcases this with h|h|h|h|h <;> subst h <;> rfl
theorem z0aa {k:Nat} (h:k≤4):z71 [(-1)] (k:Int)=some (List.replicate k (-1)):=by
 unfold z71
 rw [if_neg (by simp),show ([(-1:Int)].length:Int)=1 from rfl,z0a9 h,obs]
 have:k=0∨k=1∨k=2∨k=3∨k=4:=by omega
 rcases this with h|h|h|h|h <;> subst h
 ·rw [show mkN 8 (IntKind.i64.wrap ((0:Int),((0:Nat):Int)).2)=some 0 from rfl]
  exact congrArg (·>>=_) (z4r (body:=z43) (x:=((0:Int),([]:List Int))) (r:=(Sum.inr []:Sum (List Int) (List Int))) rfl)
 ·exact congrArg (·>>=_) (z4r (body:=z43) (x:=((1:Int),([-1]:List Int))) (r:=(Sum.inr [-1]:Sum (List Int) (List Int))) rfl)
 ·exact congrArg (·>>=_) ((z9w (body:=z43) (x:=((1:Int),([-1,0]:List Int))) (y:=(2,[-1,-1])) rfl).trans (z4r (r:=(Sum.inr [-1,-1]:Sum (List Int) (List Int))) rfl))
 ·exact congrArg (·>>=_) ((z9w (body:=z43) (x:=((1:Int),([-1,0,0]:List Int))) (y:=(2,[-1,-1,0])) rfl).trans ((z9w (y:=(3,[-1,-1,-1])) rfl).trans (z4r (r:=(Sum.inr [-1,-1,-1]:Sum (List Int) (List Int))) rfl)))
 ·exact congrArg (·>>=_) ((z9w (body:=z43) (x:=((1:Int),([-1,0,0,0]:List Int))) (y:=(2,[-1,-1,0,0])) rfl).trans ((z9w (y:=(4,[-1,-1,-1,-1])) rfl).trans (z4r (r:=(Sum.inr [-1,-1,-1,-1]:Sum (List Int) (List Int))) rfl)))
def gro (R:List (List Int)) (top:Int) (k:Nat):List (List Int):=R++List.replicate ((top+1).toNat - R.length) (List.replicate k (-1))
theorem zvc {k:Nat} (hk:k≤4) {top:Int} (h0:0≤top) (h1:top≤100) (R:List (List Int)):zc7 R top (k:Int)=some (gro R top k,gro R top k):=by
 unfold zc7
 have key:∀ (d:Nat) (R:List (List Int)),(top+1).toNat - R.length=d→iter (z9g top (k:Int)) R=some (.inr (gro R top k)):=by
  intro d
  induction d with
  | zero =>
   intro R hd
   rw [z4r (r:=.inr R) (by unfold z9g;rw [if_neg (by simp;omega)])]
   simp [gro,hd]
  | succ d ih =>
   intro R hd
   rw [z9w (y:=R++[List.replicate k (-1)]) (by
    unfold z9g
    rw [if_pos (by simp;omega),z0aa hk,obs,z82 (by simp;omega)];rfl),ih _ (by simp;omega)]
   simp only [gro,List.append_assoc,List.length_append,List.length_cons,List.length_nil,Nat.zero_add]
   rw [hd,show (top+1).toNat - (R.length+1)=d by omega]
   rfl
 rw [key _ R rfl];rfl
theorem zzn (R:List (List Int)) (top:Int) (k:Nat):(gro R top k).length=max R.length (top+1).toNat:=by simp [gro];omega
theorem ztn {R:List (List Int)} {top:Int} {k:Nat} (h:∀ r∈R,r.length=k):∀ r∈gro R top k,r.length=k:=by
 intro r hr
 rcases List.mem_append.1 hr with h1|h1
 ·exact h r h1
 ·have:=List.eq_of_mem_replicate h1;subst this;simp
def mMv (tags:List ByteArray) (R:List (List Int)) (x:z5f):X (List (List Int)):=(pl tags x.Tag).bd fun t=>(X.must (decide (x.From<8)&&decide (x.To<8)) 11).bd fun _ =>
 let R':=gro R (max x.From x.To) tags.length
 (X.must ((R'.getD x.From.toNat []).getD t.toNat 0==-1) 7).mp fun _=>R'.set x.From.toNat ((R'.getD x.From.toNat []).set t.toNat x.To)
structure Rw (c:z0b) (k:Nat):Prop where
 b:k≤4
 t:c.Tags=(k:Int)
 r:∀ r∈c.Rule,r.length=k
 n:c.Rule.length≤8
def wr (c:z0b) (R:List (List Int)):z0b:=⟨c.Kind,c.Size,c.From,c.To,c.Tags,R⟩
theorem zzo {α:Type} {l:List α} {i:Nat} {x:α} (h:i<l.length):idx (l.set i x) (i:Int)=some x:=by
 rw [z9m (by simpa using h)];simp
theorem zzp {α:Type} (l:List α) (i:Nat) (x:α):seti l (i:Int) x=l.set i x:=by unfold seti;simp
theorem z020 {α:Type} {l:List α} {i:Int} (h0:0≤i) (h:i.toNat<l.length):idx l i=some l[i.toNat]:=by
 unfold idx;rw [if_pos h0];simp [h]
theorem z08g (m:z01) (i:Nat) (x:z5f) (a:z29) (c:z0b) (ha:m.f_s.Chans[i]?=some a) (hc:m.f_p.Chans[i]?=some c) (hr:Rw c a.Tags.length) (h1:0≤x.From) (h2:0≤x.To) :
  ∃ e R,z8m m (i:Int) x=some (z01.mk m.f_s ⟨m.f_p.Chans.set i (wr c R),m.f_p.Procs⟩ m.f_chans m.f_procs m.f_proc m.f_vars e)∧Tl m.f_e (mMv a.Tags c.Rule x) e R∧Rw (wr c R) a.Tags.length:=by
 obtain ⟨hi,ha⟩:=List.getElem?_eq_some_iff.1 ha
 obtain ⟨hj,hc⟩:=List.getElem?_eq_some_iff.1 hc
 have hk:=hr.b
 unfold z8m
 rw [z9m hi,ha,obs]
 obtain ⟨e1,t,a1,a2,a3⟩:=zef m (l:=a.Tags) x.Tag (by omega)
 rw [a1,obs]
 obtain ⟨e2,b1,b2⟩:=if2 (a:=decide (x.From<8)) (m:=st m e1) (k:=11) (by decide) (z01z _ (decide (x.To<8)) (by decide))
 have hbb:∀ {β:Type} (f:Int→Option β),((if decide (x.From<8)=true then (z15 (z01.mk m.f_s m.f_p m.f_chans m.f_procs m.f_proc m.f_vars (st m e1,t).1.f_e) (decide (x.To<8)) 11>>=fun v3=>some v3.f_e) else (z15 (z01.mk m.f_s m.f_p m.f_chans m.f_procs m.f_proc m.f_vars (st m e1,t).1.f_e) false 11>>=fun v4=>some v4.f_e):Option Int)>>=f)=f e2:=fun f=>by
  refine (congrArg (·>>=f) b1).trans ?_
  rfl
 rw [hbb]
 by_cases he:e2=0
 ·have hm:m.f_e=0:=by
   by_cases h:m.f_e=0
   ·exact h
   ·have:=a2.1 h
    have:=b2.1 (show (st m e1).f_e≠0 from by rw [st_e];omega)
    rw [st_e] at this;omega
  have he1:e1=0:=by
   by_cases h:e1=0
   ·exact h
   ·have:=b2.1 (show (st m e1).f_e≠0 from h);rw [st_e] at this;omega
  subst he;subst he1
  have a4:=a2.2 hm
  have b4:=b2.2 rfl
  have hlt8:x.From<8∧x.To<8:=by
   unfold X.must at b4
   by_cases hb:(decide (x.From<8)&&decide (x.To<8))=true
   ·simpa using hb
   ·rw [if_neg hb] at b4;exact absurd b4.1 (by decide)
  have htl:t.toNat<a.Tags.length:=by
   unfold pl at a4
   cases hf:fi x.Tag a.Tags with
   | none=>rw [hf] at a4;exact absurd a4.1.symm (by decide)
   | some j=>rw [hf] at a4;have:=zze hf;omega
  rw [if_neg (by decide),z9m hj,hc,obs,hr.t,zvc hk (by omega) (by omega),obs]
  let R':=gro c.Rule (max x.From x.To) a.Tags.length
  have hR':=zzn c.Rule (max x.From x.To) a.Tags.length
  have hfl:x.From.toNat<R'.length:=by show _<(gro _ _ _).length;omega
  have hrow:(R'[x.From.toNat]).length=a.Tags.length:=ztn hr.r _ (List.getElem_mem hfl)
  have htr:t.toNat<(R'[x.From.toNat]).length:=by omega
  dsimp only
  simp only [zzp]
  rw [zzo hj,obs]
  dsimp only
  rw [z020 h1 hfl,obs,z020 a3 htr,obs]
  have hs0:seti R' x.From R'[x.From.toNat]=R':=by unfold seti;simp
  obtain ⟨e3,c1,c2⟩:=zbi (z01.mk m.f_s ⟨m.f_p.Chans.set i (wr c R'),m.f_p.Procs⟩ m.f_chans m.f_procs m.f_proc m.f_vars 0) (R'[x.From.toNat][t.toNat]==-1) 7 (by decide)
  have hcv:∀ {β:Type} (f:z01→Option β),(z15 (z01.mk m.f_s ⟨(m.f_p.Chans.set i (z0b.mk c.Kind c.Size c.From c.To (a.Tags.length:Int) R')).set i (z0b.mk c.Kind c.Size c.From c.To (a.Tags.length:Int) (seti R' x.From R'[x.From.toNat])),m.f_p.Procs⟩ m.f_chans m.f_procs m.f_proc m.f_vars 0) (R'[x.From.toNat][t.toNat]==-1) 7>>=f)=f (z01.mk m.f_s ⟨m.f_p.Chans.set i (wr c R'),m.f_p.Procs⟩ m.f_chans m.f_procs m.f_proc m.f_vars e3):=fun f=>by
   rw [hs0,List.set_set,← hr.t]
   refine (congrArg (·>>=f) c1).trans ?_
   rfl
  refine ⟨e3,R'.set x.From.toNat (R'[x.From.toNat].set t.toNat x.To),?_,?_,?_⟩
  ·refine (hcv _).trans ?_
   rw [hs0,List.set_set]
   rw [zzo hj,obs]
   dsimp only
   rw [z020 h1 hfl,obs,z020 a3 htr,obs,List.set_set,← hr.t]
   rfl
  ·unfold mMv
   rw [hm]
   have a5:Tl 0 (pl a.Tags x.Tag) 0 t:=by rw [hm] at a2;exact a2
   refine a5.bd (b2.bd ?_)
   have e5:(gro c.Rule (max x.From x.To) a.Tags.length).getD x.From.toNat []=R'[x.From.toNat]:=by
    show R'.getD x.From.toNat []=_
    rw [List.getD_eq_getElem?_getD,List.getElem?_eq_getElem hfl];rfl
   have e6:(R'[x.From.toNat]).getD t.toNat 0=R'[x.From.toNat][t.toNat]:=by
    rw [List.getD_eq_getElem?_getD,List.getElem?_eq_getElem htr];rfl
   show Tl 0 ((X.must (((gro c.Rule (max x.From x.To) a.Tags.length).getD x.From.toNat []).getD t.toNat 0==-1) 7).mp fun _=>(gro c.Rule (max x.From x.To) a.Tags.length).set x.From.toNat (((gro c.Rule (max x.From x.To) a.Tags.length).getD x.From.toNat []).set t.toNat x.To)) e3 _
   rw [e5,e6]
   exact Tl.mp c2 _
  ·refine ⟨hk,hr.t,fun r h=>?_,?_⟩
   ·rcases List.mem_or_eq_of_mem_set h with h|h
    ·exact ztn hr.r r h
    ·subst h;rw [List.length_set];exact hrow
   ·show (List.set _ _ _).length≤8
    have:=hr.n
    rw [List.length_set]
    show (gro _ _ _).length≤8
    omega
 ·refine ⟨e2,c.Rule,?_,?_,⟨hr.b,hr.t,hr.r,hr.n⟩⟩
  ·rw [if_pos (by simpa using he)]
   have:m.f_p.Chans.set i (wr c c.Rule)=m.f_p.Chans:=by
    show m.f_p.Chans.set i c=_
    rw [← hc];simp
   rw [this]
  ·unfold mMv
   refine a2.bd (Tl.bd (v:=()) b2 (Tl.off he _ _))
def ba (c:z0b):z0b:=wr c []
structure Iv (S:List z29) (L:List z0b):Prop where
 l:L.length=S.length
 r:∀ (i:Nat) (a:z29) (c:z0b),S[i]?=some a→L[i]?=some c→Rw c a.Tags.length
theorem Iv.set {S:List z29} {L:List z0b} (h:Iv S L) {i:Nat} {a:z29} {c:z0b} (ha:S[i]?=some a) (hr:Rw c a.Tags.length):Iv S (L.set i c):=by
 refine ⟨by simpa using h.l,fun j b d h1 h2=>?_⟩
 by_cases hij:i=j
 ·subst hij
  rw [ha] at h1;injection h1 with h1;subst h1
  rw [List.getElem?_set] at h2
  rw [if_pos rfl] at h2
  split at h2
  ·injection h2 with h2;subst h2;exact hr
  ·cases h2
 ·rw [List.getElem?_set,if_neg hij] at h2
  exact h.r j b d h1 h2
theorem z03l {L:List z0b} {i:Nat} {c:z0b} (hc:L[i]?=some c) (R:List (List Int)):(L.set i (wr c R)).map ba=L.map ba:=by
 obtain ⟨hi,hc⟩:=List.getElem?_eq_some_iff.1 hc
 refine List.ext_getElem (by simp) fun j h1 h2=>?_
 simp only [List.getElem_map,List.getElem_set]
 split
 ·rename_i h;subst h;rw [hc];rfl
 ·rfl
def mRl (N:List ByteArray) (S:List z29) (L:List z0b) (r:z3f):X (List z0b):=(pl N r.Chan).bd fun i=>match L[i.toNat]?,S[i.toNat]? with
 | some c,some a=>(X.must ((c.Rule.length:Int)==0) 7).bd fun _=>(fX (mMv a.Tags) (.ok (gro c.Rule 0 a.Tags.length)) r.Moves).mp fun R=>L.set i.toNat (wr c R)
 | _,_=>.er 8
theorem zzq (m:z01) (r:z3f) (he:m.f_e=0) (hI:Iv m.f_s.Chans m.f_p.Chans) (hN:m.f_chans.length=m.f_p.Chans.length) (hl:m.f_p.Chans.length≤400000000) (hm:r.Moves.length≤400000000) (hmv:∀ x∈r.Moves,0≤x.From∧0≤x.To) :
  ∃ e L,z8n m r=some (z01.mk m.f_s ⟨L,m.f_p.Procs⟩ m.f_chans m.f_procs m.f_proc m.f_vars e)∧Tl 0 (mRl m.f_chans m.f_s.Chans m.f_p.Chans r) e L∧Iv m.f_s.Chans L∧L.map ba=m.f_p.Chans.map ba:=by
 unfold z8n
 obtain ⟨e1,v,a1,a2,a3⟩:=zq2 m r.Chan (by omega)
 rw [a1,obs]
 have a4:=a2.2 he
 cases hf:pl m.f_chans r.Chan with
 | er c =>
  rw [hf] at a4
  rw [if_pos (by simp [st_e,a4])]
  exact ⟨e1,m.f_p.Chans,rfl,by unfold mRl;rw [hf];exact ⟨fun h=>absurd rfl h,fun _=>a4⟩,hI,rfl⟩
 | ok w =>
  rw [hf] at a4
  obtain ⟨rfl,rfl⟩:=a4
  obtain ⟨i,rfl⟩:∃ i:Nat,v=(i:Int):=⟨v.toNat,by omega⟩
  have hi:i<m.f_p.Chans.length:=by
   unfold pl at hf
   cases h:fi r.Chan m.f_chans with
   | none=>rw [h] at hf;cases hf
   | some j=>rw [h] at hf;injection hf with hf;have:=zze h;omega
  have hi2:i<m.f_s.Chans.length:=by rw [← hI.l];exact hi
  have ga:m.f_s.Chans[i]?=some m.f_s.Chans[i]:=List.getElem?_eq_getElem hi2
  have gc:m.f_p.Chans[i]?=some m.f_p.Chans[i]:=List.getElem?_eq_getElem hi
  have hrw:=hI.r i _ _ ga gc
  generalize ha:m.f_s.Chans[i]=a at ga hrw
  generalize hc:m.f_p.Chans[i]=c at gc hrw
  rw [if_neg (by rw [st_e];decide)]
  dsimp only
  rw [z9m hi,hc,obs]
  have hs:seti m.f_p.Chans (i:Int) c=m.f_p.Chans:=by rw [zzp,← hc];simp
  rw [hs]
  obtain ⟨e2,b1,b2⟩:=zbi (st m 0) ((c.Rule.length:Int)==0) 7 (by decide)
  have hnn:=zzn c.Rule 0 a.Tags.length
  have hn8:=hrw.n
  have hR0:Rw (wr c (gro c.Rule 0 a.Tags.length)) a.Tags.length:=⟨hrw.b,hrw.t,ztn hrw.r,by show (gro _ _ _).length≤8;rw [hnn];omega⟩
  obtain ⟨z,q1,R,q2,q3,q4⟩:=lp (body:=z7c m r (st m 0,(i:Int))) (out:=fun s:Int × List z0b=>s) r.Moves (by omega)
   (fun j z=>∃ R,z.2=m.f_p.Chans.set i (wr c R)∧Rw (wr c R) a.Tags.length∧Tl e2 (fX (mMv a.Tags) (.ok (gro c.Rule 0 a.Tags.length)) (r.Moves.take j)) z.1 R)
   (fun j x z h hj hmx htk hd hw hI2=>by
    obtain ⟨e,L⟩:=z
    obtain ⟨R,hL,hR,hT⟩:=hI2
    dsimp only at hL hT
    obtain ⟨e3,R2,c1,c2,c3⟩:=z08g (z01.mk m.f_s ⟨L,m.f_p.Procs⟩ m.f_chans m.f_procs m.f_proc m.f_vars e) i x a (wr c R) ga (by show L[i]?=_;rw [hL,List.getElem?_set,if_pos rfl,if_pos hi]) hR (hmv x hmx).1 (hmv x hmx).2
    refine ⟨(e3,m.f_p.Chans.set i (wr c R2)),?_,R2,rfl,c3,?_⟩
    ·unfold z7c
     rw [if_pos (by simpa using h),hj,obs]
     show z8m (z01.mk m.f_s ⟨L,m.f_p.Procs⟩ m.f_chans m.f_procs m.f_proc m.f_vars e) (i:Int) x>>=_=_
     rw [c1,obs]
     dsimp only
     rw [hw,hL,List.set_set];rfl
    ·rw [htk,zh7]
     exact hT.bd c2)
   (fun s=>by unfold z7c;rw [if_neg (by simp)]) (s0:=(e2,m.f_p.Chans.set i (wr c (gro c.Rule 0 a.Tags.length)))) ⟨_,rfl,hR0,by simpa [fX] using Tl.pure _ _⟩
  rw [List.take_length] at q4
  refine ⟨z.1,z.2,?_,?_,?_,?_⟩
  ·show z15 (st m 0) ((c.Rule.length:Int)==0) 7>>=_=_
   rw [b1,obs]
   rw [z9m hi,hc,obs,hrw.t,show (((a.Tags.length:Nat):Int))=((a.Tags.length:Nat):Int) from rfl,zvc hrw.b (by omega) (by omega),obs]
   dsimp only
   rw [zzp,← hrw.t]
   refine (congrArg (·>>=_) q1).trans ?_
   rfl
  ·unfold mRl
   rw [hf]
   show Tl 0 (match m.f_p.Chans[((i:Int)).toNat]?,m.f_s.Chans[((i:Int)).toNat]? with
    | some c,some a=>(X.must ((c.Rule.length:Int)==0) 7).bd fun _=>(fX (mMv a.Tags) (.ok (gro c.Rule 0 a.Tags.length)) r.Moves).mp fun R=>m.f_p.Chans.set ((i:Int)).toNat (wr c R)
    | _,_=>.er 8) _ _
   rw [Int.toNat_natCast,ga,gc,q2]
   exact Tl.bd (v:=()) b2 (q4.mp fun R=>m.f_p.Chans.set i (wr c R))
  ·rw [q2];exact hI.set ga q3
  ·rw [q2];exact z03l gc R
def mBd (k:K) (p:z3l):X (List z0h):=(X.must (decide ((p.Vars.length:Int)≤6)) 10).bd fun _=>(mAp p.Vars).bd fun _=>mL k p.Body
theorem z08h (m:z01) (i:Int) (p:z3l) (hw:Wf m) (hv:p.Vars.length≤400000000) (hb:szL p.Body≤400000000000) (hp:m.f_p.Procs.length≤400000000) :
  ∃ e v,z8o m i p=some (z01.mk m.f_s ⟨m.f_p.Chans,m.f_p.Procs++[⟨(p.Vars.length:Int),v⟩]⟩ m.f_chans m.f_procs i p.Vars e)∧Tl m.f_e (mBd ⟨p.Vars,m.f_chans,m.f_p.Chans,m.f_s.Chans,i⟩ p) e v:=by
 unfold z8o
 obtain ⟨e1,a1,a2⟩:=zbi m (decide ((p.Vars.length:Int)≤6)) 10 (by decide)
 obtain ⟨e2,v2,b1,b2,b3⟩:=zzj (st m e1) p.Vars hv
 obtain ⟨e3,v,c1,c2⟩:=ztm (m:=z01.mk m.f_s m.f_p m.f_chans m.f_procs i p.Vars e2) ⟨by show p.Vars.length≤_;omega,hw.n,hw.p,hw.s,hw.t⟩ (l:=p.Body) hb
 rw [a1,obs]
 refine ⟨e3,v,?_,a2.bd (b2.bd c2)⟩
 show z6h (st m e1) p.Vars>>=_=_
 rw [b1,obs]
 show zb0 (z01.mk m.f_s m.f_p m.f_chans m.f_procs i p.Vars e2) p.Body>>=_=_
 rw [c1,obs,z82 (by simp;omega),obs]
 rfl
theorem zq3 {β:Type} {g:Nat→β→Wr}:∀ {l:List β} {i:Nat},(flatW g i l).bad=false→∀ x∈l,∃ j,(g j x).bad=false
 | y::r,i,h,x,hx=>by
  simp only [flatW,Wr.bad_app,Bool.or_eq_false_iff] at h
  rcases List.mem_cons.1 hx with rfl|hx
  ·exact ⟨i,h.1⟩
  ·exact zq3 h.2 x hx
theorem zzr {s:z18} (h:(sSys s).bad=false):∀ r∈s.Rules,∀ x∈r.Moves,0≤x.From∧0≤x.To:=by
 intro r hr x hx
 simp only [sSys,Wr.bad_app,Bool.or_eq_false_iff] at h
 obtain ⟨_,h1⟩:=zq3 h.2.1 r hr
 simp only [sR,Wr.bad_app,Bool.or_eq_false_iff] at h1
 obtain ⟨_,h2⟩:=zq3 h1.2.2.2.1 x hx
 simp only [zxb,Wr.bad_app,Bool.or_eq_false_iff,wI,zzs] at h2
 have a:=h2.1
 have b:=h2.2.2.1
 simp at a b
 omega
theorem zzt {s:z18} (ho:okSys s) (hs:zh8 s≤1000000000000):zck s=some (!(sSys s).bad):=by
 unfold zck
 rw [z05s ho hs,obs]
 unfold endW
 cases (sSys s).bad with
 | true=>rfl
 | false =>
  simp only [Bool.false_eq_true,if_false]
  split
  ·rfl
  ·split <;> rfl
theorem zxc {α β:Type} (f:α→β→X α) (c:Int):∀ l:List β,fX f (.er c) l=.er c
 | []=>rfl
 | x::r=>zxc f c r
theorem zo7 {α β:Type} (f:α→β→X α) (a:α) (x:β) (r:List β):fX f (.ok a) (x::r)=fX f (f a x) r:=rfl
theorem z03m {α β:Type} {f:α→β→X α}:∀ {l:List β} {a b:α},fX f (.ok a) l=.ok b→∀ x∈l,∃ u v,f u x=.ok v
 | y::r,a,b,h,x,hx=>by
  rw [zo7] at h
  cases hf:f a y with
  | er c=>rw [hf,zxc] at h;cases h
  | ok v =>
   rw [hf] at h
   rcases List.mem_cons.1 hx with rfl|hx
   ·exact ⟨a,v,hf⟩
   ·exact z03m h x hx
theorem zcb {α β:Type} {x:X α} {f:α→X β} {b:β} (h:x.bd f=.ok b):∃ a,x=.ok a∧f a=.ok b:=by
 cases x with
 | ok a=>exact ⟨a,rfl,h⟩
 | er c=>cases h
theorem zld {α β:Type} {x:X α} {f:α→β} {b:β} (h:x.mp f=.ok b):∃ a,x=.ok a∧f a=b:=by
 obtain ⟨a,h1,h2⟩:=zcb h
 exact ⟨a,h1,by injection h2⟩
theorem zq4 {b:Bool} {c:Int} {u:Unit} (h:X.must b c=.ok u):b=true:=by
 cases b with
 | true=>rfl
 | false=>cases h
theorem zq5 {β γ:Type} {f:β→X γ}:∀ {l:List β} {M:List γ},mapX f l=.ok M→M.length=l.length∧∀ (i:Nat) x y,l[i]?=some x→M[i]?=some y→f x=.ok y
 | [],M,h=>by injection h with h;subst h;exact ⟨rfl,fun i x y h=>by simp at h⟩
 | a::r,M,h=>by
  simp only [mapX] at h
  obtain ⟨v,h1,h2⟩:=zcb h
  obtain ⟨M2,h3,rfl⟩:=zld h2
  obtain ⟨h4,h5⟩:=zq5 h3
  refine ⟨by simp [h4],fun i x y hx hy=>?_⟩
  cases i with
  | zero=>simp at hx hy;subst hx;subst hy;exact h1
  | succ i=>simp at hx hy;exact h5 i x y hx hy
theorem z0ab {α β γ:Type} (x:X α) (f:α→β) (g:β→γ):(x.mp f).mp g=x.mp fun a=>g (f a):=by cases x <;> rfl
theorem z03n {β γ:Type} (g:β→X γ):∀ (l:List β) (acc:List γ),fX (fun acc c=>(g c).mp fun x=>acc++[x]) (.ok acc) l=(mapX g l).mp (acc++·)
 | [],acc=>by simp [fX,mapX,X.mp,X.bd]
 | x::r,acc=>by
  rw [zo7]
  simp only [mapX]
  cases hg:g x with
  | er c=>exact zxc _ c r
  | ok v =>
   refine (z03n g r (acc++[v])).trans ?_
   show _=((mapX g r).mp (v::·)).mp _
   rw [z0ab]
   simp
theorem zzu {l:List z29} {N:List ByteArray} (h:zos l=.ok N):l.length≤4∧∀ c∈l,c.Tags.length≤4:=by
 unfold zos at h
 obtain ⟨u,h1,h2⟩:=zcb h
 refine ⟨by have:=zq4 h1;simp at this;omega,fun c hc=>?_⟩
 obtain ⟨a,v,h3⟩:=z03m h2 c hc
 unfold mDe at h3
 obtain ⟨_,_,h4⟩:=zcb h3
 obtain ⟨_,h5,_⟩:=zcb h4
 have:=zq4 h5
 simp at this;omega
theorem zto {s:z18} {q:List ByteArray × List z0b} (h:zo6 s=.ok q):s.Procs.length≤4∧1≤s.Procs.length∧mapX (ch1 q.1) s.Chans=.ok q.2∧mAp (s.Procs.map (·.Name))=.ok q.1:=by
 unfold zo6 at h
 obtain ⟨u,h1,h2⟩:=zcb h
 obtain ⟨N,h3,h4⟩:=zcb h2
 obtain ⟨L,h5,rfl⟩:=zld h4
 have hm:=zq4 h1
 simp at hm
 refine ⟨by omega,by omega,?_,h3⟩
 have h6:fX (mCs N) (.ok []) s.Chans=(mapX (ch1 N) s.Chans).mp ([]++·):=z03n (ch1 N) s.Chans []
 rw [h6] at h5
 obtain ⟨M,h7,h8⟩:=zld h5
 rw [List.nil_append] at h8
 subst h8;exact h7
theorem zzv {s:z18} {N:List ByteArray} {q:List ByteArray × List z0b} (hd:zos s.Chans=.ok N) (h:zo6 s=.ok q):Iv s.Chans q.2∧q.2.map ba=q.2:=by
 obtain ⟨_,_,h1,_⟩:=zto h
 obtain ⟨h2,h3⟩:=zq5 h1
 have key:∀ (i:Nat) a c,s.Chans[i]?=some a→q.2[i]?=some c→c.Tags=(a.Tags.length:Int)∧c.Rule=[]:=fun i a c ha hc=>by
  have h4:=h3 i a c ha hc
  unfold ch1 at h4
  obtain ⟨f,_,h5⟩:=zcb h4
  obtain ⟨t,_,h6⟩:=zcb h5
  obtain ⟨_,_,rfl⟩:=zld h6
  exact ⟨rfl,rfl⟩
 refine ⟨⟨h2,fun i a c ha hc=>?_⟩,?_⟩
 ·obtain ⟨k1,k2⟩:=key i a c ha hc
  exact ⟨(zzu hd).2 a (List.mem_of_getElem? ha),k1,(by rw [k2];intro r hr;cases hr),by rw [k2];simp⟩
 ·refine List.ext_getElem (by simp) fun i h4 h5=>?_
  have h6:i<s.Chans.length:=by rw [← h2];exact h5
  have k:=(key i s.Chans[i] q.2[i] (List.getElem?_eq_getElem h6) (List.getElem?_eq_getElem h5)).2
  simp only [List.getElem_map,ba,wr]
  rw [← k]
def mPr (N:List ByteArray) (L:List z0b) (S:List z29) (ps:List z6t) (p:z3l):X (List z6t):=(mBd ⟨p.Vars,N,L,S,(ps.length:Int)⟩ p).mp fun v=>ps++[⟨(p.Vars.length:Int),v⟩]
def mSys (s:z18):X z12:=(zos s.Chans).bd fun N=>(zo6 s).bd fun q=>(fX (mRl N s.Chans) (.ok q.2) s.Rules).bd fun L=>(fX (mPr N L s.Chans) (.ok []) s.Procs).mp fun ps=>⟨L,ps⟩
def rC (x:X z12):z12 × Int:=match x with
 | .ok p=>(p,0)
 | .er c=>(⟨[],[]⟩,c)
theorem zzw {s:z18} (ho:okSys s) (hs:zh8 s≤400000000) (hb:(sSys s).bad=false):∃ e v,z90 s=some (if (e != 0)=true then (⟨[],[]⟩,e) else (v,0))∧Tl 0 (mSys s) e v:=by
 have b1:s.Chans.length≤400000000:=by
  have:s.Chans.length≤sumN szCh s.Chans:=by
   have:=za4 (β:=z29) 1 s.Chans
   have h2:∀ l:List z29,sumN (fun _=>1) l≤sumN szCh l:=fun l=>by
    induction l with
    | nil=>simp [sumN]
    | cons x r ih=>simp only [sumN,szCh];omega
   have:=h2 s.Chans;omega
  unfold zh8 at hs;omega
 have b2:s.Procs.length≤400000000:=by
  have:s.Procs.length≤sumN szP s.Procs:=by
   have:=za4 (β:=z3l) 1 s.Procs
   have h2:∀ l:List z3l,sumN (fun _=>1) l≤sumN szP l:=fun l=>by
    induction l with
    | nil=>simp [sumN]
    | cons x r ih=>simp only [sumN,szP];omega
   have:=h2 s.Procs;omega
  unfold zh8 at hs;omega
 have b3:s.Rules.length≤400000000:=by
  have:s.Rules.length≤sumN szR s.Rules:=by
   have:=za4 (β:=z3f) 1 s.Rules
   have h2:∀ l:List z3f,sumN (fun _=>1) l≤sumN szR l:=fun l=>by
    induction l with
    | nil=>simp [sumN]
    | cons x r ih=>simp only [sumN,szR];omega
   have:=h2 s.Rules;omega
  unfold zh8 at hs;omega
 have t1:∀ c∈s.Chans,c.Tags.length≤400000000:=fun c hc=>by have:=zdi (c:=szCh) hc;unfold szCh at this;unfold zh8 at hs;unfold szCh at hs;omega
 have t2:∀ c∈s.Rules,c.Moves.length≤400000000:=fun c hc=>by have:=zdi (c:=szR) hc;unfold szR at this;unfold zh8 at hs;unfold szR at hs;omega
 have t3:∀ c∈s.Procs,c.Vars.length≤400000000∧szL c.Body≤400000000:=fun c hc=>by have:=zdi (c:=szP) hc;unfold szP at this;unfold zh8 at hs;unfold szP at hs;omega
 have all:∃ e v,Tl 0 (mSys s) e v∧z90 s=some (if (e != 0)=true then (⟨[],[]⟩,e) else (v,0)):=by
  unfold z90
  rw [zzt ho (by omega),obs,hb,if_neg (by decide)]
  obtain ⟨e1,g1,g2⟩:=zzk s b1 t1
  rw [g1,obs]
  obtain ⟨e2,L0,k1,k2⟩:=z08f s (s.Chans.map (·.Name)) e1 b1 b2
  have hbase:Tl 0 ((zos s.Chans).bd fun _=>zo6 s) e2 (s.Procs.map (·.Name),L0):=g2.bd k2
  have hiv0:e2=0→Iv s.Chans L0∧(∃ q,(zos s.Chans)=.ok (s.Chans.map (·.Name))∧zo6 s=.ok q∧q=(s.Procs.map (·.Name),L0)):=fun h0=>by
   have g3:=g2.2 rfl
   have k3:=hbase.2 rfl
   cases hd:zos s.Chans with
   | er c=>rw [hd] at g3 k3;exact absurd (by have:=k3.1;omega) k3.2
   | ok N =>
    rw [hd] at g3 k3
    rw [z05q] at k3
    cases hE:zo6 s with
    | er c=>rw [hE] at k3;exact absurd (by have:=k3.1;omega) k3.2
    | ok q =>
     rw [hE] at k3
     have:=zzv hd hE
     rw [← k3.2] at this
     exact ⟨this.1,q,by rw [← g3.2],rfl,k3.2.symm⟩
  obtain ⟨z,q1,q2,q3⟩:=lp (body:=z8y s (z01.mk s ⟨s.Chans.map ch0,[]⟩ (s.Chans.map (·.Name)) [] 0 [] e1) (z01.mk s ⟨L0,[]⟩ (s.Chans.map (·.Name)) (s.Procs.map (·.Name)) 0 [] e2)) (out:=fun s:Int × List z0b=>s) s.Rules (by omega)
   (fun i z=>(z.1=0→Iv s.Chans z.2)∧Tl e2 (fX (mRl (s.Chans.map (·.Name)) s.Chans) (.ok L0) (s.Rules.take i)) z.1 z.2)
   (fun i x z h hi hm htk hd hw hI=>by
    obtain ⟨e,L⟩:=z
    obtain ⟨hI,hT⟩:=hI
    dsimp only at hI hT
    by_cases he:e=0
    ·subst he
     have hi0:=hI rfl
     obtain ⟨e3,L3,c1,c2,c3,_⟩:=zzq (z01.mk s ⟨L,[]⟩ (s.Chans.map (·.Name)) (s.Procs.map (·.Name)) 0 [] 0) x rfl hi0 (by show (s.Chans.map (·.Name)).length=L.length;rw [hi0.l];simp) (by show L.length≤_;rw [hi0.l];exact b1) (t2 x hm) (zzr hb x hm)
     refine ⟨(e3,L3),?_,fun _=>c3,?_⟩
     ·unfold z8y
      rw [if_pos (by simpa using h)]
      show ((idx s.Rules (i:Int)>>=_)>>=_)=_
      rw [hi,obs,if_pos (by rfl)]
      show ((z8n (z01.mk s ⟨L,[]⟩ (s.Chans.map (·.Name)) (s.Procs.map (·.Name)) 0 [] 0) x>>=_)>>=_)=_
      rw [c1,obs,obs]
      dsimp only
      rw [hw]
     ·rw [htk,zh7]
      exact hT.bd c2
    ·refine ⟨(e,L),?_,hI,?_⟩
     ·unfold z8y
      rw [if_pos (by simpa using h)]
      show ((idx s.Rules (i:Int)>>=_)>>=_)=_
      rw [hi,obs,if_neg (by simpa using he),obs]
      dsimp only
      rw [hw]
     ·rw [htk,zh7]
      exact hT.bd (Tl.off he _ _))
   (fun s=>by unfold z8y;rw [if_neg (by simp)]) (s0:=(e2,L0)) ⟨fun h=>(hiv0 h).1,by simpa [fX] using Tl.pure _ _⟩
  rw [List.take_length] at q3
  obtain ⟨e4,L⟩:=z
  dsimp only at q2 q3
  obtain ⟨y,r1,r2,r3⟩:=lp (body:=z8z s (e4,L) (z01.mk s ⟨s.Chans.map ch0,[]⟩ (s.Chans.map (·.Name)) [] 0 [] e1) (z01.mk s ⟨L0,[]⟩ (s.Chans.map (·.Name)) (s.Procs.map (·.Name)) 0 [] e2)) (out:=fun s:Int × List ByteArray × Int × List z6t=>s) s.Procs (by omega)
   (fun i z=>(z.2.1.length≤400000000∧(z.2.2.1=0→e4=0∧z.2.2.2.length=i))∧Tl e4 (fX (mPr (s.Chans.map (·.Name)) L s.Chans) (.ok []) (s.Procs.take i)) z.2.2.1 z.2.2.2)
   (fun i x z h hi hm htk hd hw hI=>by
    obtain ⟨pr,vs,e,P⟩:=z
    obtain ⟨⟨hV,hI⟩,hT⟩:=hI
    dsimp only at hV hI hT
    by_cases he:e=0
    ·subst he
     obtain ⟨he4,hPl⟩:=hI rfl
     have hi0:=q2 he4
     obtain ⟨e3,v,c1,c2⟩:=z08h (z01.mk s ⟨L,P⟩ (s.Chans.map (·.Name)) (s.Procs.map (·.Name)) pr vs 0) (i:Int) x ⟨by show vs.length≤_;omega,by show (s.Chans.map (·.Name)).length≤_;simp;omega,by show L.length=(s.Chans.map (·.Name)).length;rw [hi0.l];simp,by show s.Chans.length=(s.Chans.map (·.Name)).length;simp,fun c hc=>by have:=t1 c hc;omega⟩ (t3 x hm).1 (by have:=(t3 x hm).2;omega) (by show P.length≤_;omega)
     refine ⟨((i:Int),x.Vars,e3,P++[⟨(x.Vars.length:Int),v⟩]),?_,⟨(t3 x hm).1,fun h=>⟨he4,by simp [hPl]⟩⟩,?_⟩
     ·unfold z8z
      rw [if_pos (by simpa using h)]
      show ((idx s.Procs (i:Int)>>=_)>>=_)=_
      rw [hi,obs,if_pos (by rfl)]
      show ((z8o (z01.mk s ⟨L,P⟩ (s.Chans.map (·.Name)) (s.Procs.map (·.Name)) pr vs 0) (i:Int) x>>=_)>>=_)=_
      rw [c1,obs,obs]
      dsimp only
      rw [hw]
     ·rw [htk,zh7]
      refine hT.bd (Tl.mp ?_ fun v=>P++[⟨(x.Vars.length:Int),v⟩])
      rw [hPl];exact c2
    ·refine ⟨(pr,vs,e,P),?_,⟨hV,fun h=>absurd h he⟩,?_⟩
     ·unfold z8z
      rw [if_pos (by simpa using h)]
      show ((idx s.Procs (i:Int)>>=_)>>=_)=_
      rw [hi,obs,if_neg (by simpa using he),obs]
      dsimp only
      rw [hw]
     ·rw [htk,zh7]
      exact hT.bd (Tl.off he _ _))
   (fun s=>by unfold z8z;rw [if_neg (by simp)]) (s0:=(0,[],e4,[])) ⟨⟨by simp,fun h=>⟨h,rfl⟩⟩,by simpa [fX] using Tl.pure _ _⟩
  rw [List.take_length] at r3
  refine ⟨y.2.2.1,⟨L,y.2.2.2⟩,?_,?_⟩
  ·have e0:mSys s=((zos s.Chans).bd fun N=>(zo6 s).bd fun q=>(fX (mRl N s.Chans) (.ok q.2) s.Rules).bd fun L=>(fX (mPr N L s.Chans) (.ok []) s.Procs).mp fun ps=>⟨L,ps⟩):=rfl
   rw [e0]
   exact g2.bd (k2.bd (q3.bd (r3.mp fun ps=>(⟨L,ps⟩:z12))))
  refine (congrArg (·>>=_) k1).trans ?_
  rw [obs]
  refine (congrArg (·>>=_) q1).trans ?_
  rw [obs]
  dsimp only [Sum.elim]
  refine (congrArg (·>>=_) r1).trans ?_
  rw [obs]
  dsimp only [Sum.elim]
  by_cases hy:y.2.2.1=0
  ·rw [if_neg (by simpa using hy),if_neg (by simpa using hy)]
  ·rw [if_pos (by simpa using hy),if_pos (by simpa using hy)]
 obtain ⟨e,v,h1,h2⟩:=all
 exact ⟨e,v,h2,h1⟩
theorem zzx {s:z18} (ho:okSys s) (hs:zh8 s≤400000000):z90 s=some (if (sSys s).bad=true then (⟨[],[]⟩,5) else rC (mSys s)):=by
 cases hb:(sSys s).bad with
 | true=>unfold z90;rw [zzt ho (by omega),obs,hb];rfl
 | false =>
  obtain ⟨e,v,h1,h2⟩:=zzw ho hs hb
  rw [h1,if_neg (show ¬ (false=true) by decide)]
  have:=h2.2 rfl
  cases hS:mSys s with
  | ok p =>
   rw [hS] at this
   rw [if_neg (by rw [this.1];decide),this.2];rfl
  | er c =>
   rw [hS] at this
   rw [if_pos (by rw [this.1];simpa using this.2),this.1];rfl
theorem z05t {s:z18} (ho:okSys s) (hs:zh8 s≤400000000) (hb:(sSys s).bad=false) {c:Int} (h:mSys s=.er c):c≠0:=by
 obtain ⟨e,v,_,h2⟩:=zzw ho hs hb
 have:=h2.2 rfl
 rw [h] at this
 exact this.2
abbrev cB:ByteArray:=ByteArray.mk #[99]
abbrev pB:ByteArray:=ByteArray.mk #[112]
abbrev qB:ByteArray:=ByteArray.mk #[113]
abbrev aB:ByteArray:=ByteArray.mk #[97]
abbrev oB:ByteArray:=ByteArray.mk #[]
def z05u:z4m:=⟨[⟨cB,0,1,pB,qB,[aB]⟩],[],[⟨pB,[],[.mk 4 cB aB ⟨1,1,oB,[]⟩ ⟨0,⟨0,0,oB,[]⟩,⟨0,0,oB,[]⟩⟩ [] [] []]⟩,⟨qB,[],[]⟩]⟩
def ckS:z18:=⟨[⟨cB,0,1,pB,qB,[aB]⟩],[],[⟨pB,[],[.mk 4 cB aB ⟨1,1,oB,[]⟩ ⟨0,⟨0,0,oB,[]⟩,⟨0,0,oB,[]⟩⟩ [] [] []]⟩,⟨qB,[],[]⟩]⟩
theorem z0ac:cSys z05u=ckS:=by simp [z05u,ckS,cSys,cCh,cPr,cL,cS,cE,cEs,cC,cA]
abbrev ckT:ByteArray:=(ByteArray.mk #[99,104,97,110,32,99,32,98,108,111,99,107,32,49,32,102,114,111,109,32,112,32,116,111,32,113,32,123,32,97,32,125,32,59,32,112,114,111,99,32,112,32,123,32,115,101,110,100,32,99,32,46,32,97,32,40,32,49,32,41,32,59,32,125,32,112,114,111,99,32,113,32,123,32,125])
theorem ck_g:Par.gF ckT=(z05u,0,0):=by kernel_rfl
theorem ck_p:zam ckT=some (ckS,0,0):=by
 rw [Par.parse_f (by decide),Par.gF_eq,ck_g,z0ac]
theorem z0ad:okSys ckS:=by
 have z0:oB.size≤4194304:=by decide
 have z1:pB.size≤4194304:=by decide
 have z2:qB.size≤4194304:=by decide
 have z3:aB.size≤4194304:=by decide
 have z4:cB.size≤4194304:=by decide
 simp only [ckS,Wri.okSys,Wri.okCh,Wri.okP,Wri.okL,Wri.okS,Wri.okE,Wri.okEs,Wri.okC,Wri.okA,Wri.in64,List.map_nil,List.map_cons,List.mem_cons,List.not_mem_nil,or_false,forall_eq_or_imp,forall_eq,z0,z1,z2,z3,z4]
 simp
theorem z0ae:zh8 ckS≤100:=by
 simp [ckS,zh8,sumN,szCh,szP,szL,szS,szE,szEs,szC,szA]
theorem z08i:(sSys ckS).bad=false:=by
 have h1:=zh9 (b:=112) (by decide)
 have h2:=zh9 (b:=113) (by decide)
 have h3:=zh9 (b:=97) (by decide)
 have h4:=zh9 (b:=99) (by decide)
 simp [ckS,Wri.sSys,Wri.flatW,Wri.sCh,Wri.wTag,Wri.sP,Wri.sL,Wri.sS,Wri.sE,Wri.inP,Wri.wLeaf,Wri.wW,Wri.wN,Wri.wI,Wri.wM,Wri.wD,Wr.nil,Wri.sumK,Wri.pairK,Wri.signW,Wri.kindOk,h1,h2,h3,h4,z0af,zzs]
abbrev cs1:z0b:=⟨0,1,0,1,1,[]⟩
abbrev zpb:z0h:=.mk 4 0 0 0 ⟨1,1,0,[]⟩ ⟨0,⟨0,0,0,[]⟩,⟨0,0,0,[]⟩⟩ [] [] []
abbrev ckQ:z12:=⟨[cs1],[⟨0,[zpb]⟩,⟨0,[]⟩]⟩
theorem q_p:(qB.toList==pB.toList)=false:=by rw [Go.ByteArray.toList_eq,Go.ByteArray.toList_eq];rfl
theorem p_q:(pB.toList==qB.toList)=false:=by rw [Go.ByteArray.toList_eq,Go.ByteArray.toList_eq];rfl
theorem ck_m:mSys ckS=.ok ckQ:=by
 simp [mSys,ckS,zos,zo6,X.must,X.bd,X.mp,fX,mDe,mAp,mAd,fi,mCs,ch1,pl,mPr,mBd,mL,mS,mCh,mE,mEs,q_p,p_q]
theorem ck_f:z90 ckS=some (ckQ,0):=by
 rw [zzx z0ad (by have:=z0ae;omega),z08i,if_neg (by decide),ck_m];rfl
abbrev lk (p:Int):z1q:=⟨ckQ,p,0⟩
theorem z05v:zd7 ⟨1,1,0,[]⟩ 0=some true:=by
 refine Sn.unf (h:=1) fun n=>?_
 cases n with
 | zero=>exact .inr ⟨rfl,by omega⟩
 | succ n =>
  refine .inl ?_
  simp only [z91]
  show (iter (zee (z91 n) ⟨1,1,0,[]⟩ 0) 0>>=_)=_
  rw [z4r (r:=.inr ()) (by rfl)]
  rfl
theorem z05w (L:z1q):z7t L []=some true:=by
 refine Sn.unf (h:=1) fun n=>?_
 cases n with
 | zero=>exact .inr ⟨rfl,by omega⟩
 | succ n =>
  refine .inl ?_
  simp only [z2c]
  rw [z4r (r:=.inr ()) (by rfl)]
  rfl
theorem z08j:z7t (lk 0) [zpb]=some true:=by
 refine Sn.unf (h:=2) fun n=>?_
 match n with
 | 0=>exact .inr ⟨rfl,by omega⟩
 | 1 =>
  refine .inr ⟨?_,by omega⟩
  simp only [z2c]
  rw [zcd]
  rfl
 | n+2 =>
  refine .inl ?_
  simp only [z2c]
  rw [z9w (y:=1) (by
   unfold z8u
   rw [if_pos (by rfl),show idx [zpb] (0:Int)=some zpb from rfl,obs]
   rw [show z3t (n+1) (lk 0) zpb=some true by
    simp only [z3t]
    show (((zd7 ⟨1,1,0,[]⟩ 0>>=fun v14=>some v14)>>=fun j7=>some j7):Option Bool)=_
    rw [z05v];rfl]
   rfl)]
  rw [z4r (r:=.inr ()) (by rfl)]
  rfl
theorem z021:zd6 cs1=some true:=by
 unfold zd6
 rw [z4r (r:=.inr 0) (by rfl)];rfl
theorem zxd:zb4 cs1 2=some true:=by
 unfold zb4
 show (((zd6 cs1>>=fun v6=>some v6)>>=fun j2=>some j2):Option Bool)=_
 rw [z021];rfl
theorem z022:z9u ckQ=some true:=by
 unfold z9u
 show (iter (zbg ckQ) 0>>=_)=_
 rw [z9w (y:=1) (by
  unfold zbg
  rw [if_pos (by rfl)]
  show (zb4 cs1 2>>=_)=_
  rw [zxd];rfl),z4r (r:=.inr ()) (by rfl)]
 show (iter (za3 ckQ) 0>>=_)=_
 rw [z9w (y:=1) (by
  unfold za3
  rw [if_pos (by rfl)]
  show (((z7t (lk 0) [zpb]>>=fun v6=>some (!v6)):Option Bool)>>=_)=_
  rw [z08j];rfl),z9w (y:=2) (by
  unfold za3
  rw [if_pos (by rfl)]
  show (((z7t (lk 1) []>>=fun v6=>some (!v6)):Option Bool)>>=_)=_
  rw [z05w];rfl),z4r (r:=.inr ()) (by rfl)]
 rfl
theorem z023:z9u ⟨[],[]⟩=some false:=rfl
theorem z024:zel=some true:=by
 unfold zel
 show (zam ckT>>=_)=_
 rw [ck_p,obs,ck_f,obs]
 show (((z9u ckQ>>=fun v5=>if v5=true then (z9u ⟨[],[]⟩>>=fun v6=>some (!v6)) else some false):Option Bool)>>=fun j1=>some j1)=_
 rw [z022,obs,if_pos rfl,z023];rfl
theorem z0ag {l:List ByteArray} {s:ByteArray} {v:Int} (h:pl l s=.ok v):∃ i:Nat,v=(i:Int)∧∃ x,l[i]?=some x∧(s.toList==x.toList)=true:=by
 unfold pl at h
 cases hf:fi s l with
 | none=>rw [hf] at h;cases h
 | some i =>
  rw [hf] at h;injection h with h
  refine ⟨i,h.symm,?_⟩
  clear h
  induction l generalizing i with
  | nil=>cases hf
  | cons x r ih =>
   simp only [fi] at hf
   split at hf
   ·rename_i hx;injection hf with hf;subst hf;exact ⟨x,rfl,hx⟩
   ·rw [Option.map_eq_some_iff] at hf
    obtain ⟨j,hj,rfl⟩:=hf
    exact ih j hj
theorem z03o {α β:Type} {f:α→β→X α} (P:α→Prop) (hf:∀ a x b,f a x=.ok b→P a→P b):∀ {l:List β} {a b:α},fX f (.ok a) l=.ok b→P a→P b
 | [],a,b,h,hp=>by injection h with h;subst h;exact hp
 | x::r,a,b,h,hp=>by
  rw [zo7] at h
  cases he:f a x with
  | er c=>rw [he,zxc] at h;cases h
  | ok v=>rw [he] at h;exact z03o P hf h (hf a x v he hp)
theorem z0ah {N:List ByteArray} {S:List z29} {L M:List z0b} {r:z3f} (h:mRl N S L r=.ok M):M.map ba=L.map ba:=by
 unfold mRl at h
 obtain ⟨i,_,h⟩:=zcb h
 split at h
 ·rename_i c a hc ha
  obtain ⟨_,_,h⟩:=zcb h
  obtain ⟨R,_,rfl⟩:=zld h
  exact z03l hc R
 ·cases h
theorem z03p {N:List ByteArray} {L:List z0b} {S:List z29}:∀ {l:List z3l} {acc ps:List z6t},fX (mPr N L S) (.ok acc) l=.ok ps→ps.map (fun q=>(q.Vars,q.Body.length))=acc.map (fun q=>(q.Vars,q.Body.length))++l.map (fun p=>((p.Vars.length:Int),p.Body.length))
 | [],acc,ps,h=>by injection h with h;subst h;simp
 | p::r,acc,ps,h=>by
  rw [zo7] at h
  cases he:mPr N L S acc p with
  | er c=>rw [he,zxc] at h;cases h
  | ok v =>
   rw [he] at h
   have h2:=z03p h
   unfold mPr at he
   obtain ⟨b,h3,rfl⟩:=zld he
   unfold mBd at h3
   obtain ⟨_,_,h3⟩:=zcb h3
   obtain ⟨_,_,h3⟩:=zcb h3
   rw [zzi] at h3
   have h4:=(zq5 h3).1
   rw [h2];simp [h4]
theorem kept {s:z18} {p:z12} (h:mSys s=.ok p):p.Procs.map (fun q=>(q.Vars,q.Body.length))=s.Procs.map (fun p=>((p.Vars.length:Int),p.Body.length))∧p.Chans.length=s.Chans.length ∧
  ∀ (i:Nat) a c,s.Chans[i]?=some a→p.Chans[i]?=some c→c.Kind=a.Kind∧c.Size=a.Size∧c.Tags=(a.Tags.length:Int)∧pl (s.Procs.map (·.Name)) a.From=.ok c.From∧pl (s.Procs.map (·.Name)) a.To=.ok c.To:=by
 unfold mSys at h
 obtain ⟨N,h1,h⟩:=zcb h
 obtain ⟨q,h2,h⟩:=zcb h
 obtain ⟨L,h3,h⟩:=zcb h
 obtain ⟨ps,h4,rfl⟩:=zld h
 obtain ⟨hiv,hba⟩:=zzv h1 h2
 obtain ⟨_,_,h5,h6⟩:=zto h2
 have hL:L.map ba=q.2:=by
  rw [z03o (fun M:List z0b=>M.map ba=q.2.map ba) (fun a x b hb ha=>by rw [z0ah hb,ha]) h3 rfl,hba]
 have hq1:q.1=s.Procs.map (·.Name):=by
  have key:∀ (l acc b:List ByteArray),fX mAd (.ok acc) l=.ok b→b=acc++l:=by
   intro l
   induction l with
   | nil=>intro acc b hb;injection hb with hb;simp [hb]
   | cons x r ih =>
    intro acc b hb
    rw [zo7] at hb
    cases he:mAd acc x with
    | er c=>rw [he,zxc] at hb;cases hb
    | ok v =>
     rw [he] at hb
     unfold mAd at he
     obtain ⟨_,_,rfl⟩:=zld he
     rw [ih _ _ hb];simp
  simpa using key _ _ _ h6
 have hl:L.length=s.Chans.length:=by have:=congrArg List.length hL;rw [List.length_map] at this;rw [this,hiv.l]
 refine ⟨by have:=z03p h4;simpa using this,hl,fun i a c ha hc=>?_⟩
 have hc2:q.2[i]?=some (ba c):=by
  rw [← hL]
  show (L.map ba)[i]?=_
  have hc':L[i]?=some c:=hc
  rw [List.getElem?_map,hc'];rfl
 have h8:=(zq5 h5).2 i a (ba c) ha hc2
 unfold ch1 at h8
 obtain ⟨f,f1,h8⟩:=zcb h8
 obtain ⟨t,t1,h8⟩:=zcb h8
 obtain ⟨_,_,h8⟩:=zld h8
 rw [hq1] at f1 t1
 have e1:c.Kind=a.Kind:=(congrArg z0b.Kind h8).symm
 have e2:c.Size=a.Size:=(congrArg z0b.Size h8).symm
 have e3:c.Tags=(a.Tags.length:Int):=(congrArg z0b.Tags h8).symm
 have e4:f=c.From:=congrArg z0b.From h8
 have e5:t=c.To:=congrArg z0b.To h8
 exact ⟨e1,e2,e3,by rw [← e4];exact f1,by rw [← e5];exact t1⟩
theorem oks {β O : Type} {body : Int → Option (Sum Int (Sum O Unit))} (l : List β) (hl : l.length ≤ 400000000000) (hs : ∀ i : Nat, (h : i < l.length) → IntKind.i64.wrap ((i : Int) + 1) = ((i + 1 : Nat) : Int) → body (i : Int) = some (.inl ((i + 1 : Nat) : Int))) (he : body (l.length : Int) = some (.inr (.inr ()))) : iter body 0 = some (.inr ()) := by
  have key : ∀ (k i : Nat), l.length - i = k → i ≤ l.length → iter body (i : Int) = some (.inr ()) := by
    intro k
    induction k with
    | zero => intro i hk hi; have : i = l.length := by omega
              subst this; exact z4r he
    | succ k ih =>
      intro i hk hi
      have hw : IntKind.i64.wrap ((i : Int) + 1) = ((i + 1 : Nat) : Int) := by rw [w64 (by omega) (by omega)]; omega
      rw [z9w (hs i (by omega) hw)]
      exact ih (i + 1) (by omega) (by omega)
  exact key _ 0 rfl (by omega)
theorem zxe {s:z18} {p:z12} (h:mSys s=.ok p):s.Chans.length≤4∧s.Procs.length≤4:=by
 unfold mSys at h
 obtain ⟨N,h1,h⟩:=zcb h
 obtain ⟨q,h2,h⟩:=zcb h
 exact ⟨(zzu h1).1,(zto h2).1⟩
theorem law_CheckPlaces {a0:z4m} (ho:okSys (cSys a0)) (hs:zh8 (cSys a0)≤400000000):zcr a0=some true:=by
 unfold zcr
 rw [z08k (by omega),obs,zzx ho hs,obs,z024]
 generalize hw:(if (sSys (cSys a0)).bad=true then ((⟨[],[]⟩:z12),(5:Int)) else rC (mSys (cSys a0)))=w
 show (((if (!true)=true then some true else some (w.2 != 0)):Option Bool)>>=_)=_
 rw [if_neg (by decide),obs]
 by_cases h0:w.2=0
 ·rw [if_neg (by simpa using h0)]
  cases hb:(sSys (cSys a0)).bad with
  | true=>rw [hb,if_pos rfl] at hw;subst hw;exact absurd h0 (by decide)
  | false =>
   rw [hb,if_neg (by decide)] at hw
   cases hm:mSys (cSys a0) with
   | er c=>rw [hm] at hw;subst hw;exact absurd h0 (z05t ho hs hb hm)
   | ok p =>
    rw [hm] at hw
    have hw:w=(p,0):=hw.symm
    subst hw
    obtain ⟨k1,k2,k3⟩:=kept hm
    obtain ⟨b1,b2⟩:=zxe hm
    have n1:p.Chans.length=a0.Chans.length:=by rw [k2];simp [cSys]
    have n2:p.Procs.length=a0.Procs.length:=by have:=congrArg List.length k1;simpa [cSys] using this
    have b1:a0.Chans.length≤4:=by simpa [cSys] using b1
    have b2:a0.Procs.length≤4:=by simpa [cSys] using b2
    have name:∀ {s:ByteArray} {v:Int},pl ((cSys a0).Procs.map (·.Name)) s=.ok v→∃ q,idx a0.Procs v=some q∧(q.Name.toList==s.toList)=true:=fun h=>by
     obtain ⟨j,rfl,x,h1,h2⟩:=z0ag h
     simp only [cSys,List.map_map,List.getElem?_map,Option.map_eq_some_iff] at h1
     obtain ⟨q,h3,rfl⟩:=h1
     obtain ⟨hj,h4⟩:=List.getElem?_eq_some_iff.1 h3
     refine ⟨q,by rw [z9m hj,h4],?_⟩
     have h5:=eq_of_beq h2
     show (q.Name.toList==_)=true
     rw [h5];exact beq_self_eq_true _
    show ((if ((p.Chans.length:Int) != (a0.Chans.length:Int))=true then some true else some ((p.Procs.length:Int) != (a0.Procs.length:Int))):Option Bool)>>=_=_
    rw [n1,n2,if_neg (by simp),obs,if_neg (by simp)]
    refine (congrArg (·>>=_) (oks (body:=z7u a0 (p,0)) a0.Chans (by omega) (fun i h hw=>by
     have hp:i<p.Chans.length:=by omega
     obtain ⟨f1,f2,f3,f4,f5⟩:=k3 i (cCh a0.Chans[i]) p.Chans[i] (by simp [cSys,h]) (List.getElem?_eq_getElem hp)
     unfold z7u
     rw [if_pos (by simpa using h)]
     show idx p.Chans (i:Int)>>=_=_
     rw [z9m hp,obs,z9m h,obs]
     rw [if_neg (by rw [f1];simp [cCh]),if_neg (by rw [f2];simp [cCh]),if_neg (by rw [f3];simp [cCh])]
     obtain ⟨q1,g1,g2⟩:=name f4
     obtain ⟨q2,g3,g4⟩:=name f5
     rw [g1,obs,if_neg (by rw [show (q1.Name.toList==a0.Chans[i].From.toList)=true from g2];decide),g3,obs,obs,show (q2.Name.toList==a0.Chans[i].To.toList)=true from g4]
     show some (Sum.inl (IntKind.i64.wrap ((i:Int)+1)))=_
     rw [hw]) (by unfold z7u;rw [if_neg (by simp)]))).trans ?_
    rw [obs]
    dsimp only [Sum.elim]
    refine (congrArg (·>>=_) (oks (body:=z7v a0 (p,0)) a0.Procs (by omega) (fun i h hw=>by
     have hp:i<p.Procs.length:=by omega
     have k4:(p.Procs[i].Vars,p.Procs[i].Body.length)=(((cPr a0.Procs[i]).Vars.length:Int),(cPr a0.Procs[i]).Body.length):=by
      have:=congrArg (·[i]?) k1
      simpa [cSys,hp,h] using this
     have v1:p.Procs[i].Vars=(a0.Procs[i].Vars.length:Int):=congrArg Prod.fst k4
     have v2:p.Procs[i].Body.length=a0.Procs[i].Body.length:=by
      have:=congrArg Prod.snd k4
      refine this.trans ?_
      show (cL a0.Procs[i].Body).length=_
      rw [zs0,List.length_map]
     unfold z7v
     rw [if_pos (by simpa using h)]
     show ((idx p.Procs (i:Int)>>=_)>>=_)=_
     rw [z9m hp,obs,z9m h,obs,if_neg (by rw [v1];simp),obs,v2,if_neg (by simp),hw]) (by unfold z7v;rw [if_neg (by simp)]))).trans ?_
    rfl
 ·rw [if_pos (by simpa using h0)]
  rfl
end Go.Proofs.YtimbigpplbbjaaaGreatDoor.Abs.Cm
namespace Go.Proofs.YtimbigpplbbjaaaGreatDoor.Abs.Wri
open Go Go.RowKit
set_option linter.unusedVariables false
set_option linter.unusedSimpArgs false
theorem zq6 {n:Int} (h:InK .i64 n):in64 n:=by
 have h1:=h.lo
 have h2:=h.hi
 simp [IntKind.min,IntKind.max,IntKind.signed,IntKind.bits] at h1 h2
 exact ⟨by omega,by omega⟩
mutual
def mE:z31→Nat
 | ⟨_,_,s,l⟩=>s.size+mEs l+4
def mEs:List z31→Nat
 | []=>0
 | e::r=>mE e+mEs r
end
mutual
def rgE:z31→Prop
 | ⟨_,n,_,l⟩=>in64 n∧rgEs l
def rgEs:List z31→Prop
 | []=>True
 | e::r=>rgE e∧rgEs r
end
theorem zzy:∀ l,mEs l=sumM mE l
 | []=>rfl
 | e::r=>by simp only [mEs,sumM,zzy r]
theorem zzz:∀ {l:List z31},(∀ x∈l,rgE x)→rgEs l
 | [],_=>trivial
 | e::r,h=>⟨h e List.mem_cons_self,zzz fun x hx=>h x (List.mem_cons_of_mem _ hx)⟩
mutual
theorem zvd:∀ (e:z31),rgE e→mE e≤4194304→okE (cE e)∧szE (cE e)≤mE e
 | ⟨k,n,s,l⟩,h,hm=>by
  simp only [rgE] at h
  simp only [mE] at hm ⊢
  have:=z000 l h.2 (by omega)
  simp only [cE,okE,szE]
  exact ⟨⟨h.1,by omega,this.1⟩,by omega⟩
theorem z000:∀ (l:List z31),rgEs l→mEs l≤4194304→okEs (cEs l)∧szEs (cEs l)≤mEs l
 | [],_,_=>⟨trivial,Nat.le_refl _⟩
 | e::r,h,hm=>by
  simp only [rgEs] at h
  simp only [mEs] at hm ⊢
  have h1:=zvd e h.1 (by omega)
  have h2:=z000 r h.2 (by omega)
  simp only [cEs,okEs,szEs]
  exact ⟨⟨h1.1,h2.1⟩,by omega⟩
end
mutual
def mS:z16→Nat
 | .mk _ n t e c b l a=>n.size+t.size+mE e+(mE c.L+mE c.R)+mL b+mL l+mA a+8
def mL:List z16→Nat
 | []=>0
 | s::r=>mS s+mL r
def mA:List z6k→Nat
 | []=>0
 | .mk t v b::r=>(t.size+v.size+mL b+3)+mA r
end
def mAr (x:z6k):Nat:=x.Tag.size+x.Var.size+mL x.Body+3
mutual
def rgS:z16→Prop
 | .mk _ _ _ e c b l a=>rgE e∧rgE c.L∧rgE c.R∧rgL b∧rgL l∧rgA a
def rgL:List z16→Prop
 | []=>True
 | s::r=>rgS s∧rgL r
def rgA:List z6k→Prop
 | []=>True
 | .mk _ _ b::r=>rgL b∧rgA r
end
def rgAr (x:z6k):Prop:=rgL x.Body
theorem zve:∀ l,mL l=sumM mS l
 | []=>by simp only [mL,sumM]
 | e::r=>by simp only [mL,sumM,zve r]
theorem z03q:∀ l,mA l=sumM mAr l
 | []=>by simp only [mA,sumM]
 | .mk t v b::r=>by simp only [mA,sumM,z03q r];rfl
theorem zs1:∀ {l:List z16},(∀ x∈l,rgS x)→rgL l
 | [],_=>by simp only [rgL]
 | e::r,h=>by simp only [rgL];exact ⟨h e List.mem_cons_self,zs1 fun x hx=>h x (List.mem_cons_of_mem _ hx)⟩
theorem z03r:∀ {l:List z6k},(∀ x∈l,rgAr x)→rgA l
 | [],_=>by simp only [rgA]
 | .mk t v b::r,h=>by simp only [rgA];exact ⟨h (.mk t v b) List.mem_cons_self,z03r fun x hx=>h x (List.mem_cons_of_mem _ hx)⟩
mutual
theorem z08l:∀ (s:z16),rgS s→mS s≤4194304→okS (cS s)∧szS (cS s)≤mS s
 | .mk k n t e c b l a,h,hm=>by
  simp only [rgS] at h
  simp only [mS] at hm ⊢
  have h1:=zvd e h.1 (by omega)
  have h2:=zvd c.L h.2.1 (by omega)
  have h3:=zvd c.R h.2.2.1 (by omega)
  have h4:=zs2 b h.2.2.2.1 (by omega)
  have h5:=zs2 l h.2.2.2.2.1 (by omega)
  have h6:=z03s a h.2.2.2.2.2 (by omega)
  have hz:szC (cC c)=1+szE (cE c.L)+szE (cE c.R):=rfl
  simp only [cS,okS,szS,hz]
  exact ⟨⟨by omega,by omega,h1.1,⟨h2.1,h3.1⟩,h4.1,h5.1,h6.1⟩,by omega⟩
theorem zs2:∀ (l:List z16),rgL l→mL l≤4194304→okL (cL l)∧szL (cL l)≤mL l+1
 | [],_,_=>by simp only [cL,okL,szL,mL,true_and];omega
 | s::r,h,hm=>by
  simp only [rgL] at h
  simp only [mL] at hm ⊢
  have h1:=z08l s h.1 (by omega)
  have h2:=zs2 r h.2 (by omega)
  simp only [cL,okL,szL]
  exact ⟨⟨h1.1,h2.1⟩,by omega⟩
theorem z03s:∀ (l:List z6k),rgA l→mA l≤4194304→okA (cA l)∧szA (cA l)≤mA l+1
 | [],_,_=>by simp only [cA,okA,szA,mA,true_and];omega
 | .mk t v b::r,h,hm=>by
  simp only [rgA] at h
  simp only [mA] at hm ⊢
  have h1:=zs2 b h.1 (by omega)
  have h2:=z03s r h.2 (by omega)
  simp only [cA,okA,szA]
  exact ⟨⟨by omega,by omega,h1.1,h2.1⟩,by omega⟩
end
section
variable {H:Type} {enc:TypeId × Value→H} {w:World}
theorem zha {T E:TypeId} {τ:Type} {e:τ→List PV} {ok:τ→Prop} {m:τ→Nat} {sz:Nat} {P:Program} (hu:P.underlying T=some (.slice E)) (hsz:P.cellsOf E=sz) (hpos:0<sz) (hlen:∀ x,(e x).length=sz) {fuel:Nat} (hE:∀ f,f<fuel→DecB P enc w f E e ok m) :
  DecB P enc w fuel T (fun l:List τ=>[.sl (l.map e)]) (fun l=>(∀ x∈l,ok x)∧l.length≤maxLen) (fun l=>sumM m l+1):=by
 cases fuel with
 | zero=>exact zog
 | succ f=>exact zwa hu hsz hpos hlen (hE f (Nat.lt_succ_self f))
theorem z001:∀ fuel,DecB Tryz.prog enc w fuel 166 z5l rgE mE:=by
 intro fuel
 induction fuel using Nat.strongRecOn with
 | _ fuel ih =>
  cases fuel with
  | zero=>exact zog
  | succ f =>
   refine z9n (N:=4) (fun x:Int × Int × ByteArray × List z31 × Unit=>z31.mk x.1 x.2.1 x.2.2.1 x.2.2.2.1) Tryz.underlying166 (by kernel_rfl)
    (z3m (sz:=1) rfl (by kernel_rfl) (zfc Tryz.underlying3 f) (z3m (sz:=1) rfl (by kernel_rfl) (zfc Tryz.underlying3 f) (z3m (sz:=1) rfl (by kernel_rfl) (zbk Tryz.underlying9 f)
     (z3m (sz:=1) rfl (by kernel_rfl) (zha Tryz.underlying164 (by kernel_rfl) (by decide) zoi fun g hg=>ih g (by omega)) (zea (by decide))))))
    (fun x=>by rw [zcg];rfl) (fun x h=>⟨zq6 h.2.1,zzz h.2.2.2.1.1⟩) (fun x=>?_)
   show x.2.2.1.size+mEs x.2.2.2.1+4≤1+(1+(x.2.2.1.size+1+(sumM mE x.2.2.2.1+1+0)))+1
   rw [zzy];omega
theorem z08m (fuel:Nat):DecB Tryz.prog enc w fuel 168 ziq (fun c=>rgE c.L∧rgE c.R) (fun c=>mE c.L+mE c.R+2):=by
 cases fuel with
 | zero=>exact zog
 | succ f =>
  refine z9n (N:=9) (fun x:Int × z31 × z31 × Unit=>zat.mk x.1 x.2.1 x.2.2.1) Tryz.underlying168 (by kernel_rfl)
   (z3m (sz:=1) rfl (by kernel_rfl) (zfc Tryz.underlying3 f) (z3m (sz:=4) rfl (by kernel_rfl) (z001 f) (z3m (sz:=4) rfl (by kernel_rfl) (z001 f) (zea (by decide)))))
   (fun x=>by simp only [zcg];rfl) (fun x h=>⟨h.2.1,h.2.2.1⟩) (fun x=>?_)
  show mE x.2.1+mE x.2.2.1+2≤1+(mE x.2.1+(mE x.2.2.1+0))+1
  omega
theorem z08n:∀ fuel,DecB Tryz.prog enc w fuel 171 z4n rgS mS:=by
 intro fuel
 induction fuel using Nat.strongRecOn with
 | _ fuel ih =>
  cases fuel with
  | zero=>exact zog
  | succ f =>
   have hL:∀ g,g≤f→DecB Tryz.prog enc w g 73 (fun l:List z16=>[.sl (l.map z4n)]) (fun l=>(∀ x∈l,rgS x)∧l.length≤maxLen) (fun l=>sumM mS l+1):=fun g hg =>
    zha Tryz.underlying73 (by kernel_rfl) (by decide) zj4 fun g' hg'=>ih g' (by omega)
   have hA:∀ g,g≤f→DecB Tryz.prog enc w g 177 zch rgAr mAr:=fun g hg=>by
    cases g with
    | zero=>exact zog
    | succ g =>
     refine z9n (N:=3) (fun x:ByteArray × ByteArray × List z16 × Unit=>z6k.mk x.1 x.2.1 x.2.2.1) Tryz.underlying177 (by kernel_rfl)
      (z3m (sz:=1) rfl (by kernel_rfl) (zbk Tryz.underlying9 g) (z3m (sz:=1) rfl (by kernel_rfl) (zbk Tryz.underlying9 g) (z3m (sz:=1) rfl (by kernel_rfl) (hL g (by omega)) (zea (by decide)))))
      (fun x=>by rw [zdj];rfl) (fun x h=>zs1 h.2.2.1.1) (fun x=>?_)
     show x.1.size+x.2.1.size+mL x.2.2.1+3≤x.1.size+1+(x.2.1.size+1+(sumM mS x.2.2.1+1+0))+1
     rw [zve];omega
   refine z9n (N:=19) (fun x:Int × ByteArray × ByteArray × z31 × zat × List z16 × List z16 × List z6k × Unit=>z16.mk x.1 x.2.1 x.2.2.1 x.2.2.2.1 x.2.2.2.2.1 x.2.2.2.2.2.1 x.2.2.2.2.2.2.1 x.2.2.2.2.2.2.2.1) Tryz.underlying171 (by kernel_rfl)
    (z3m (sz:=1) rfl (by kernel_rfl) (zfc Tryz.underlying3 f) (z3m (sz:=1) rfl (by kernel_rfl) (zbk Tryz.underlying9 f) (z3m (sz:=1) rfl (by kernel_rfl) (zbk Tryz.underlying9 f)
     (z3m (sz:=4) rfl (by kernel_rfl) (z001 f) (z3m (sz:=9) rfl (by kernel_rfl) (z08m f) (z3m (sz:=1) rfl (by kernel_rfl) (hL f (Nat.le_refl f)) (z3m (sz:=1) rfl (by kernel_rfl) (hL f (Nat.le_refl f))
      (z3m (sz:=1) rfl (by kernel_rfl) (zha Tryz.underlying169 (by kernel_rfl) (by decide) zpw fun g hg=>hA g (by omega)) (zea (by decide))))))))))
    (fun x=>by rw [zgx];simp only [zcg,ziq];rfl) (fun x h=>?_) (fun x=>?_)
   ·simp only [rgS]
    exact ⟨h.2.2.2.1,h.2.2.2.2.1.1,h.2.2.2.2.1.2,zs1 h.2.2.2.2.2.1.1,zs1 h.2.2.2.2.2.2.1.1,z03r h.2.2.2.2.2.2.2.1.1⟩
   ·simp only [mS,zve,z03q];omega
theorem z08o (fuel:Nat):DecB Tryz.prog enc w fuel 73 (fun l:List z16=>[.sl (l.map z4n)]) (fun l=>(∀ x∈l,rgS x)∧l.length≤maxLen) (fun l=>sumM mS l+1) :=
 zha Tryz.underlying73 (by kernel_rfl) (by decide) zj4 fun g hg=>z08n g
end
theorem zit {β:Type} {m:β→Nat}:∀ {l:List β} {x:β},x∈l→m x≤sumM m l
 | y::r,x,h=>by
  rcases List.mem_cons.1 h with rfl|h
  ·simp only [sumM];omega
  ·have:=zit (m:=m) h;simp only [sumM];omega
theorem zq7 {β:Type} {m:β→Nat} (h:∀ x,1≤m x):∀ l:List β,l.length≤sumM m l
 | []=>by simp
 | x::r=>by have:=zq7 h r;have:=h x;simp only [sumM,List.length_cons];omega
def mT (s:ByteArray):Nat:=s.size+1
theorem z03t {l:List ByteArray} {x:ByteArray} (h:x∈l):x.size+1≤sumM mT l:=zit (m:=mT) h
theorem z03u (l:List ByteArray):l.length≤sumM mT l:=zq7 (fun x=>by unfold mT;omega) l
def mCh (c:zdc):Nat:=c.Name.size+c.From.size+c.To.size+sumM mT c.Tags+6
def mMo (m:zcf):Nat:=m.Tag.size+3
def mRu (r:zdd):Nat:=r.Chan.size+sumM mMo r.Moves+2
def mPr (p:zde):Nat:=p.Name.size+sumM mT p.Vars+mL p.Body+3
def mSys (s:z4m):Nat:=sumM mCh s.Chans+sumM mRu s.Rules+sumM mPr s.Procs+3
def rgMo (m:zcf):Prop:=in64 m.From∧in64 m.To
def z08p (s:z4m):Prop:=(∀ c∈s.Chans,in64 c.Size)∧(∀ r∈s.Rules,∀ m∈r.Moves,rgMo m)∧(∀ p∈s.Procs,rgL p.Body)
theorem zle {β:Type} {c m:β→Nat}:∀ {l:List β},(∀ x∈l,c x≤m x)→sumN c l≤sumM m l
 | [],_=>Nat.le_refl _
 | x::r,h=>by
  have h1:=h x List.mem_cons_self
  have h2:=zle (l:=r) fun y hy=>h y (List.mem_cons_of_mem _ hy)
  simp only [sumN,sumM];omega
theorem okSys_of {s:z4m} (h:z08p s) (hm:mSys s≤1048576):okSys (cSys s)∧zh8 (cSys s)≤2000000:=by
 obtain ⟨h1,h2,h3⟩:=h
 unfold mSys at hm
 have c1:∀ c∈s.Chans,mCh c≤1048576:=fun c hc=>by have:=zit (m:=mCh) hc;omega
 have c2:∀ c∈s.Rules,mRu c≤1048576:=fun c hc=>by have:=zit (m:=mRu) hc;omega
 have c3:∀ c∈s.Procs,mPr c≤1048576:=fun c hc=>by have:=zit (m:=mPr) hc;omega
 have k3:∀ p∈s.Procs,okL (cL p.Body)∧szL (cL p.Body)≤mL p.Body+1:=fun p hp=>zs2 p.Body (h3 p hp) (by have:=c3 p hp;unfold mPr at this;omega)
 refine ⟨⟨?_,?_,?_⟩,?_⟩
 ·intro c hc
  obtain ⟨x,hx,rfl⟩:=List.mem_map.1 hc
  have:=c1 x hx
  unfold mCh at this
  refine ⟨?_,?_,?_,h1 x hx,fun t ht=>?_⟩
  ·show x.Name.size≤_;omega
  ·show x.From.size≤_;omega
  ·show x.To.size≤_;omega
  ·have h7:=z03t (l:=x.Tags) ht;omega
 ·intro c hc
  obtain ⟨x,hx,rfl⟩:=List.mem_map.1 hc
  have:=c2 x hx
  unfold mRu at this
  refine ⟨?_,fun m hm=>?_⟩
  ·show x.Chan.size≤_;omega
  ·obtain ⟨y,hy,rfl⟩:=List.mem_map.1 hm
   have h4:=h2 x hx y hy
   have h5:=zit (m:=mMo) hy
   have h6:mMo y=y.Tag.size+3:=rfl
   refine ⟨h4.1,?_,h4.2⟩
   show y.Tag.size≤_;omega
 ·intro c hc
  obtain ⟨x,hx,rfl⟩:=List.mem_map.1 hc
  have:=c3 x hx
  unfold mPr at this
  refine ⟨?_,fun v hv=>?_,(k3 x hx).1⟩
  ·show x.Name.size≤_;omega
  ·have h7:=z03t (l:=x.Vars) hv;omega
 ·unfold zh8
  simp only [cSys]
  rw [zlf,zlf,zlf]
  have s1:sumN (fun x=>szCh (cCh x)) s.Chans≤sumM mCh s.Chans:=zle fun x hx=>by
   have:=z03u x.Tags
   show 3+x.Tags.length≤_
   unfold mCh;omega
  have s2:sumN (fun x=>szR (cRu x)) s.Rules≤sumM mRu s.Rules:=zle fun x hx=>by
   have:=zq7 (m:=mMo) (fun x=>by unfold mMo;omega) x.Moves
   show 1+(x.Moves.map cMo).length≤_
   rw [List.length_map]
   unfold mRu;omega
  have s3:sumN (fun x=>szP (cPr x)) s.Procs≤sumM mPr s.Procs:=zle fun x hx=>by
   have:=z03u x.Vars
   have:=(k3 x hx).2
   show 1+x.Vars.length+szL (cL x.Body)≤_
   unfold mPr;omega
  omega
section
variable {H:Type} {enc:TypeId × Value→H} {w:World}
theorem zs3 (fuel:Nat):DecB Tryz.prog enc w fuel 70 (fun l:List ByteArray=>[.sl (l.map z0a)]) (fun l=>(∀ x∈l,x.size≤maxLen)∧l.length≤maxLen) (fun l=>sumM mT l+1) :=
 zha (e:=z0a) (ok:=fun s=>s.size≤maxLen) (m:=mT) Tryz.underlying70 (by kernel_rfl) (by decide) (fun _=>rfl) fun g hg=>zbk Tryz.underlying9 g
theorem z05x (fuel:Nat):DecB Tryz.prog enc w fuel 72 z9a (fun c=>in64 c.Size) mCh:=by
 cases fuel with
 | zero=>exact zog
 | succ f =>
  refine z9n (N:=6) (fun x:ByteArray × Int × Int × ByteArray × ByteArray × List ByteArray × Unit=>zdc.mk x.1 x.2.1 x.2.2.1 x.2.2.2.1 x.2.2.2.2.1 x.2.2.2.2.2.1) Tryz.underlying72 (by kernel_rfl)
   (z3m (sz:=1) rfl (by kernel_rfl) (zbk Tryz.underlying9 f) (z3m (sz:=1) rfl (by kernel_rfl) (zfc Tryz.underlying3 f) (z3m (sz:=1) rfl (by kernel_rfl) (zfc Tryz.underlying3 f)
    (z3m (sz:=1) rfl (by kernel_rfl) (zbk Tryz.underlying9 f) (z3m (sz:=1) rfl (by kernel_rfl) (zbk Tryz.underlying9 f) (z3m (sz:=1) rfl (by kernel_rfl) (zs3 f) (zea (by decide))))))))
   (fun x=>rfl) (fun x h=>zq6 h.2.2.1) (fun x=>?_)
  show x.1.size+x.2.2.2.1.size+x.2.2.2.2.1.size+sumM mT x.2.2.2.2.2.1+6≤x.1.size+1+(1+(1+(x.2.2.2.1.size+1+(x.2.2.2.2.1.size+1+(sumM mT x.2.2.2.2.2.1+1+0)))))+1
  omega
theorem z05y (fuel:Nat):DecB Tryz.prog enc w fuel 84 zei rgMo mMo:=by
 cases fuel with
 | zero=>exact zog
 | succ f =>
  refine z9n (N:=3) (fun x:Int × ByteArray × Int × Unit=>zcf.mk x.1 x.2.1 x.2.2.1) Tryz.underlying84 (by kernel_rfl)
   (z3m (sz:=1) rfl (by kernel_rfl) (zfc Tryz.underlying3 f) (z3m (sz:=1) rfl (by kernel_rfl) (zbk Tryz.underlying9 f) (z3m (sz:=1) rfl (by kernel_rfl) (zfc Tryz.underlying3 f) (zea (by decide)))))
   (fun x=>rfl) (fun x h=>⟨zq6 h.1,zq6 h.2.2.1⟩) (fun x=>?_)
  show x.2.1.size+3≤1+(x.2.1.size+1+(1+0))+1
  omega
theorem z05z (fuel:Nat):DecB Tryz.prog enc w fuel 86 za1 (fun r=>∀ m∈r.Moves,rgMo m) mRu:=by
 cases fuel with
 | zero=>exact zog
 | succ f =>
  refine z9n (N:=2) (fun x:ByteArray × List zcf × Unit=>zdd.mk x.1 x.2.1) Tryz.underlying86 (by kernel_rfl)
   (z3m (sz:=1) rfl (by kernel_rfl) (zbk Tryz.underlying9 f) (z3m (sz:=1) rfl (by kernel_rfl) (zha (e:=zei) (sz:=3) Tryz.underlying80 (by kernel_rfl) (by decide) (fun _=>rfl) fun g hg=>z05y g) (zea (by decide))))
   (fun x=>rfl) (fun x h=>h.2.1.1) (fun x=>?_)
  show x.1.size+sumM mMo x.2.1+2≤x.1.size+1+(sumM mMo x.2.1+1+0)+1
  omega
theorem z060 (fuel:Nat):DecB Tryz.prog enc w fuel 75 z5m (fun p=>rgL p.Body) mPr:=by
 cases fuel with
 | zero=>exact zog
 | succ f =>
  refine z9n (N:=3) (fun x:ByteArray × List ByteArray × List z16 × Unit=>zde.mk x.1 x.2.1 x.2.2.1) Tryz.underlying75 (by kernel_rfl)
   (z3m (sz:=1) rfl (by kernel_rfl) (zbk Tryz.underlying9 f) (z3m (sz:=1) rfl (by kernel_rfl) (zs3 f) (z3m (sz:=1) rfl (by kernel_rfl) (z08o f) (zea (by decide)))))
   (fun x=>rfl) (fun x h=>zs1 h.2.2.1.1) (fun x=>?_)
  show x.1.size+sumM mT x.2.1+mL x.2.2.1+3≤x.1.size+1+(sumM mT x.2.1+1+(sumM mS x.2.2.1+1+0))+1
  rw [zve];omega
theorem decB_Sys (fuel:Nat):DecB Tryz.prog enc w fuel 26 z4o z08p mSys:=by
 cases fuel with
 | zero=>exact zog
 | succ f =>
  refine z9n (N:=3) (fun x:List zdc × List zdd × List zde × Unit=>z4m.mk x.1 x.2.1 x.2.2.1) Tryz.underlying26 (by kernel_rfl)
   (z3m (sz:=1) rfl (by kernel_rfl) (zha (e:=z9a) (sz:=6) Tryz.underlying22 (by kernel_rfl) (by decide) (fun _=>rfl) fun g hg=>z05x g) (z3m (sz:=1) rfl (by kernel_rfl) (zha (e:=za1) (sz:=2) Tryz.underlying23 (by kernel_rfl) (by decide) (fun _=>rfl) fun g hg=>z05z g)
    (z3m (sz:=1) rfl (by kernel_rfl) (zha (e:=z5m) (sz:=3) Tryz.underlying24 (by kernel_rfl) (by decide) (fun _=>rfl) fun g hg=>z060 g) (zea (by decide)))))
   (fun x=>rfl) (fun x h=>⟨h.1.1,h.2.1.1,h.2.2.1.1⟩) (fun x=>?_)
  show sumM mCh x.1+sumM mRu x.2.1+sumM mPr x.2.2.1+3≤sumM mCh x.1+1+(sumM mRu x.2.1+1+(sumM mPr x.2.2.1+1+0))+1
  omega
end
end Go.Proofs.YtimbigpplbbjaaaGreatDoor.Abs.Wri

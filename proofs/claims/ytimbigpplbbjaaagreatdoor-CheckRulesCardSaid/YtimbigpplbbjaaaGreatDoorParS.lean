/- The maker: what checking is (first errors), names, expressions, comparisons. -/
import Derived.Test.YtimbigpplbbjaaaGreatDoorPlB
import Derived.Test.YtimbigpplbbjaaaGreatDoorParT
namespace Go.Proofs.YtimbigpplbbjaaaGreatDoor.Abs.Cm
open Go Go.RowKit Wri
set_option linter.unusedVariables false
set_option linter.unusedSimpArgs false
theorem obs {α β:Type} (x:α) (f:α→Option β):(some x>>=f)=f x:=rfl
inductive X (α:Type) where
 | ok (a:α)
 | er (c:Int)
def X.bd {α β:Type} (x:X α) (f:α→X β):X β:=match x with
 | .ok a=>f a
 | .er c=>.er c
def X.mp {α β:Type} (x:X α) (f:α→β):X β:=x.bd fun a=>.ok (f a)
def X.must (b:Bool) (c:Int):X Unit:=if b then .ok () else .er c
def Tl {α:Type} (e0:Int) (s:X α) (e1:Int) (v:α):Prop:=(e0≠0→e1=e0)∧(e0=0→match s with
 | .ok a=>e1=0∧v=a
 | .er c=>e1=c∧c≠0)
theorem Tl.pure {α:Type} (e:Int) (a:α):Tl e (.ok a) e a:=⟨fun _=>rfl,fun h=>⟨h,rfl⟩⟩
theorem Tl.bd {α β:Type} {e0 e1 e2:Int} {s:X α} {f:α→X β} {v:α} {u:β} (h1:Tl e0 s e1 v) (h2:Tl e1 (f v) e2 u):Tl e0 (s.bd f) e2 u:=by
 refine ⟨fun h=>?_,fun h=>?_⟩
 ·have:=h1.1 h
  rw [h2.1 (by rw [this];exact h),this]
 ·have h3:=h1.2 h
  cases s with
  | ok a =>
   obtain ⟨rfl,rfl⟩:=h3
   exact h2.2 rfl
  | er c =>
   obtain ⟨rfl,h4⟩:=h3
   exact ⟨h2.1 h4,h4⟩
theorem Tl.mp {α β:Type} {e0 e1:Int} {s:X α} {v:α} (h:Tl e0 s e1 v) (f:α→β):Tl e0 (s.mp f) e1 (f v):=h.bd (Tl.pure _ _)
theorem Tl.off {α:Type} {e:Int} (h:e≠0) (s:X α) (v:α):Tl e s e v:=⟨fun _=>rfl,fun h'=>absurd h' h⟩
theorem Tl.of {α:Type} {e0:Int} {s:X α} {e1:Int} {v:α} (h:Tl e0 s e1 v) (h0:e0=0):(∃ a,s=.ok a∧e1=0∧v=a)∨(∃ c,s=.er c∧e1=c∧c≠0):=by
 have:=h.2 h0
 cases s with
 | ok a=>exact .inl ⟨a,rfl,this⟩
 | er c=>exact .inr ⟨c,rfl,this⟩
theorem zrv {α β:Type} (a:α) (f:α→X β):(X.ok a).bd f=f a:=rfl
def mapX {β γ:Type} (f:β→X γ):List β→X (List γ)
 | []=>.ok []
 | x::r=>(f x).bd fun v=>(mapX f r).mp (v::·)
theorem z09r {β γ O:Type} {body:Nat→Int × Int × List γ→Option (Sum (Int × Int × List γ) (Sum O (Int × List γ)))} {H:Nat} (f:β→X γ) (a1:List β) (hlen:a1.length≤400000000000)
  (hs:∀ (i:Nat) x e acc,i<a1.length→idx a1 (i:Int)=some x→x∈a1→acc.length=i→IntKind.i64.wrap ((i:Int)+1)=((i+1:Nat):Int) →
   ∃ e' v,(∀ n,Sn n H (body n ((i:Int),e,acc)) (.inl (((i+1:Nat):Int),e',acc++[v])))∧Tl e (f x) e' v)
  (he:∀ n e acc,body n ((a1.length:Int),e,acc)=some (.inr (.inr (e,acc)))) :
  ∀ (l:List β) (i:Nat) (e:Int) (acc:List γ),a1.drop i=l→i≤a1.length→acc.length=i→∃ e' vs,(∀ n,Sn n H (iter (body n) ((i:Int),e,acc)) (.inr (e',acc++vs)))∧Tl e (mapX f l) e' vs:=by
 intro l
 induction l with
 | nil =>
  intro i e acc hd hi ha
  have:i=a1.length:=by have:=List.drop_eq_nil_iff.1 hd;omega
  subst this
  exact ⟨e,[],fun n=>.inl (by rw [z4l (he n e acc)];simp),Tl.pure _ _⟩
 | cons s r ih =>
  intro i e acc hd hi ha
  have hlt:i<a1.length:=by
   refine Nat.lt_of_not_le fun h=>?_
   rw [List.drop_of_length_le h] at hd;cases hd
  rw [List.drop_eq_getElem_cons hlt] at hd
  injection hd with h1 h2
  have hi2:idx a1 (i:Int)=some s:=by rw [zb4 hlt,h1]
  have hw:IntKind.i64.wrap ((i:Int)+1)=((i+1:Nat):Int):=by rw [w64 (by omega) (by omega)];omega
  have hm:s∈a1:=by rw [← h1];exact List.getElem_mem hlt
  obtain ⟨e1,v,h3,h4⟩:=hs i s e acc hlt hi2 hm ha hw
  obtain ⟨e2,vs,h5,h6⟩:=ih (i+1) e1 (acc++[v]) h2 hlt (by simp;omega)
  refine ⟨e2,v::vs,fun n=>?_,h4.bd (h6.mp _)⟩
  rw [zce]
  refine Sn.bind (h3 n) ?_
  have:=h5 n
  simpa using this
theorem z07x {β γ O:Type} {body:Nat→Int × Int × List γ→Option (Sum (Int × Int × List γ) (Sum O (Int × List γ)))} {H:Nat} (f:β→X γ) (a1:List β) (hlen:a1.length≤400000000000)
  (hs:∀ (i:Nat) x e acc,i<a1.length→idx a1 (i:Int)=some x→x∈a1→acc.length=i→IntKind.i64.wrap ((i:Int)+1)=((i+1:Nat):Int) →
   ∃ e' v,(∀ n,Sn n H (body n ((i:Int),e,acc)) (.inl (((i+1:Nat):Int),e',acc++[v])))∧Tl e (f x) e' v)
  (he:∀ n e acc,body n ((a1.length:Int),e,acc)=some (.inr (.inr (e,acc)))) (e:Int):∃ e' vs,(∀ n,Sn n H (iter (body n) (0,e,[])) (.inr (e',vs)))∧Tl e (mapX f a1) e' vs:=by
 obtain ⟨e',vs,h1,h2⟩:=z09r f a1 hlen hs he a1 0 e [] rfl (by omega) rfl
 exact ⟨e',vs,fun n=>by simpa using h1 n,h2⟩
theorem z07y {β γ O:Type} {body:Nat→Int × Int × List γ→Option (Sum (Int × Int × List γ) (Sum O (Int × List γ)))} {H:Nat} (f:β→X γ) (a1:List β) (hlen:a1.length≤400000000000)
  (hs:∀ (i:Nat) x acc,i<a1.length→idx a1 (i:Int)=some x→x∈a1→acc.length=i→IntKind.i64.wrap ((i:Int)+1)=((i+1:Nat):Int) →
   ∃ e' v,(∀ n,Sn n H (body n ((i:Int),0,acc)) (.inl (((i+1:Nat):Int),e',acc++[v])))∧Tl 0 (f x) e' v)
  (hx:∀ n (i:Nat) e acc,i<a1.length→e≠0→body n ((i:Int),e,acc)=some (.inr (.inr (e,acc)))) (he:∀ n e acc,body n ((a1.length:Int),e,acc)=some (.inr (.inr (e,acc)))) :
  ∀ (l:List β) (i:Nat) (e:Int) (acc:List γ),a1.drop i=l→i≤a1.length→acc.length=i→∃ e' vs,(∀ n,Sn n H (iter (body n) ((i:Int),e,acc)) (.inr (e',acc++vs)))∧Tl e (mapX f l) e' vs:=by
 intro l
 induction l with
 | nil =>
  intro i e acc hd hi ha
  have:i=a1.length:=by have:=List.drop_eq_nil_iff.1 hd;omega
  subst this
  exact ⟨e,[],fun n=>.inl (by rw [z4l (he n e acc)];simp),Tl.pure _ _⟩
 | cons s r ih =>
  intro i e acc hd hi ha
  have hlt:i<a1.length:=by
   refine Nat.lt_of_not_le fun h=>?_
   rw [List.drop_of_length_le h] at hd;cases hd
  by_cases h0:e=0
  ·subst h0
   rw [List.drop_eq_getElem_cons hlt] at hd
   injection hd with h1 h2
   have hi2:idx a1 (i:Int)=some s:=by rw [zb4 hlt,h1]
   have hw:IntKind.i64.wrap ((i:Int)+1)=((i+1:Nat):Int):=by rw [w64 (by omega) (by omega)];omega
   have hm:s∈a1:=by rw [← h1];exact List.getElem_mem hlt
   obtain ⟨e1,v,h3,h4⟩:=hs i s acc hlt hi2 hm ha hw
   obtain ⟨e2,vs,h5,h6⟩:=ih (i+1) e1 (acc++[v]) h2 hlt (by simp;omega)
   refine ⟨e2,v::vs,fun n=>?_,h4.bd (h6.mp _)⟩
   rw [zce]
   refine Sn.bind (h3 n) ?_
   have:=h5 n
   simpa using this
  ·exact ⟨e,[],fun n=>.inl (by rw [z4l (hx n i e acc hlt h0)];simp),Tl.off h0 _ _⟩
theorem z05e {β γ O:Type} {body:Nat→Int × Int × List γ→Option (Sum (Int × Int × List γ) (Sum O (Int × List γ)))} {H:Nat} (f:β→X γ) (a1:List β) (hlen:a1.length≤400000000000)
  (hs:∀ (i:Nat) x acc,i<a1.length→idx a1 (i:Int)=some x→x∈a1→acc.length=i→IntKind.i64.wrap ((i:Int)+1)=((i+1:Nat):Int) →
   ∃ e' v,(∀ n,Sn n H (body n ((i:Int),0,acc)) (.inl (((i+1:Nat):Int),e',acc++[v])))∧Tl 0 (f x) e' v)
  (hx:∀ n (i:Nat) e acc,i<a1.length→e≠0→body n ((i:Int),e,acc)=some (.inr (.inr (e,acc)))) (he:∀ n e acc,body n ((a1.length:Int),e,acc)=some (.inr (.inr (e,acc)))) (e:Int) :
  ∃ e' vs,(∀ n,Sn n H (iter (body n) (0,e,[])) (.inr (e',vs)))∧Tl e (mapX f a1) e' vs:=by
 obtain ⟨e',vs,h1,h2⟩:=z07y f a1 hlen hs hx he a1 0 e [] rfl (by omega) rfl
 exact ⟨e',vs,fun n=>by simpa using h1 n,h2⟩
def fi (s:ByteArray):List ByteArray→Option Nat
 | []=>none
 | x::l=>if (s.toList==x.toList)=true then some 0 else (fi s l).map (· + 1)
theorem zza {s:ByteArray}:∀ {l:List ByteArray} {i:Nat},fi s l=some i→i<l.length
 | x::l,i,h=>by
  simp only [fi] at h
  split at h
  ·injection h with h;subst h;simp
  ·rw [Option.map_eq_some_iff] at h
   obtain ⟨j,hj,rfl⟩:=h
   have:=zza hj
   simp;omega
def fiI (s:ByteArray) (l:List ByteArray):Int:=match fi s l with
 | some i=>(i:Int)
 | none=>-1
theorem zzb {l:List ByteArray} (s:ByteArray) (hl:l.length≤400000000000):z3n l s=some (fiI s l):=by
 unfold z3n
 have key:∀ (m:List ByteArray) (i:Nat),l.drop i=m→i≤l.length→iter (z3m l s) (i:Int)=some (match fi s m with|some j=>.inl (((i+j:Nat):Nat):Int)|none=>.inr ()):=by
  intro m
  induction m with
  | nil =>
   intro i hd hi
   have:i=l.length:=by have:=List.drop_eq_nil_iff.1 hd;omega
   subst this
   exact z4l (r:=(Sum.inr ():Sum Int Unit)) (by simp [z3m])
  | cons x r ih =>
   intro i hd hi
   have hlt:i<l.length:=by
    refine Nat.lt_of_not_le fun h=>?_
    rw [List.drop_of_length_le h] at hd;cases hd
   rw [List.drop_eq_getElem_cons hlt] at hd
   injection hd with h1 h2
   have hi2:idx l (i:Int)=some x:=by rw [zb4 hlt,h1]
   have hw:IntKind.i64.wrap ((i:Int)+1)=((i+1:Nat):Int):=by rw [w64 (by omega) (by omega)];omega
   have hd1:decide ((i:Int)<(l.length:Int))=true:=by simpa using hlt
   cases hb:(s.toList==x.toList) with
   | true =>
    rw [z4l (r:=.inl (i:Int)) (by unfold z3m;rw [if_pos hd1,hi2,obs,if_pos hb])]
    simp [fi,hb]
   | false =>
    rw [z94 (y:=((i+1:Nat):Int)) (by unfold z3m;rw [if_pos hd1,hi2,obs,if_neg (by rw [hb];simp),hw]),ih (i+1) h2 hlt]
    simp only [fi,hb,Bool.false_eq_true,if_false]
    cases fi s r with
    | none=>rfl
    | some j=>simp only [Option.map_some];congr 2;omega
 rw [show (0:Int)=((0:Nat):Int) from rfl,key l 0 rfl (by omega),obs]
 unfold fiI
 cases fi s l with
 | none=>rfl
 | some j=>simp
theorem zmb {l:List ByteArray} (s:ByteArray) (hl:l.length≤400000000000):z3o l s=some (decide (fiI s l≥0)):=by
 unfold z3o
 rw [zzb s hl];rfl
theorem zux {s:ByteArray} {l:List ByteArray}:decide (fiI s l≥0)=(fi s l).isSome:=by
 unfold fiI
 cases fi s l <;> simp
def pl (l:List ByteArray) (s:ByteArray):X Int:=match fi s l with
 | some i=>.ok (i:Int)
 | none=>.er 8
def st (m:z01) (e:Int):z01:=z01.mk m.f_s m.f_p m.f_chans m.f_procs m.f_proc m.f_vars e
theorem st_e (m:z01) (a:Int):(st m a).f_e=a:=rfl
theorem zbg (m:z01) (b:Bool) (c:Int) (hc:c≠0):∃ e,z14 m b c=some (st m e)∧Tl m.f_e (X.must b c) e ():=by
 unfold z14 X.must
 cases b with
 | true=>exact ⟨m.f_e,rfl,Tl.pure _ _⟩
 | false =>
  simp only [Bool.not_false,if_true]
  unfold zbk
  by_cases h:m.f_e=0
  ·refine ⟨c,?_,fun h'=>absurd h h',fun _=>⟨rfl,hc⟩⟩
   rw [if_pos (by simpa using h)];rfl
  ·refine ⟨m.f_e,?_,Tl.off h _ _⟩
   rw [if_neg (by simpa using h)];rfl
theorem zea (m:z01) {l:List ByteArray} (s:ByteArray) (hl:l.length≤400000000000):∃ e v,z2o m l s=some (st m e,v)∧Tl m.f_e (pl l s) e v∧0≤v:=by
 unfold z2o
 rw [zzb s hl,obs,zux]
 obtain ⟨e,h1,h2⟩:=zbg m (fi s l).isSome 8 (by decide)
 rw [h1,obs]
 refine ⟨e,max (fiI s l) 0,rfl,?_,by omega⟩
 unfold pl
 cases hf:fi s l with
 | none =>
  rw [hf] at h2
  refine ⟨h2.1,fun h0=>?_⟩
  have:=h2.2 h0
  exact this
 | some i =>
  rw [hf] at h2
  refine ⟨h2.1,fun h0=>⟨(h2.2 h0).1,?_⟩⟩
  unfold fiI
  rw [hf]
  simp only
  omega
theorem zq1 (m:z01) (s:ByteArray) (hl:m.f_chans.length≤400000000000):∃ e v,z7a m s=some (st m e,v)∧Tl m.f_e (pl m.f_chans s) e v∧0≤v:=zea m s hl
theorem zzc (m:z01) (s:ByteArray) (hl:m.f_procs.length≤400000000000):∃ e v,z77 m s=some (st m e,v)∧Tl m.f_e (pl m.f_procs s) e v∧0≤v:=zea m s hl
mutual
def mE (V:List ByteArray):z06→X z0v
 | .mk k n s ks=>(if k=2 then pl V s else .ok 0).bd fun v=>(mEs V ks).mp fun l=>⟨k,if k=1 then n else 0,v,l⟩
def mEs (V:List ByteArray):List z06→X (List z0v)
 | []=>.ok []
 | e::r=>(mE V e).bd fun v=>(mEs V r).mp (v::·)
end
theorem zzd (V:List ByteArray):∀ l,mEs V l=mapX (mE V) l
 | []=>rfl
 | e::r=>by simp only [mEs,mapX,zzd V r]
theorem zuy (e:z06):1≤szE e:=by cases e;simp only [szE];omega
theorem zrw:∀ l:List z06,l.length≤szEs l
 | []=>by simp
 | e::r=>by have:=zrw r;have:=zuy e;simp only [szEs,List.length_cons];omega
theorem zrx:∀ {l:List z06} {x:z06},x∈l→szE x≤szEs l
 | y::r,x,h=>by
  rcases List.mem_cons.1 h with rfl|h
  ·simp only [szEs];omega
  ·have:=zrx h;simp only [szEs];omega
theorem el2:z9p=z59:=rfl
theorem el3:z9q=z59:=rfl
theorem mE_f:∀ (N:Nat) (x:z06),szE x≤N→N≤400000000000→∀ m:z01,m.f_vars.length≤400000000000→∃ e v,(∀ n,Sn n (szE x) (z2p n m x) (st m e,v))∧Tl m.f_e (mE m.f_vars x) e v:=by
 intro N
 induction N with
 | zero=>intro x h;have:=zuy x;omega
 | succ N ih =>
  intro x h hN m hv
  obtain ⟨k,nm,s,ks⟩:=x
  have hsz:szE ⟨k,nm,s,ks⟩=1+szEs ks:=by simp only [szE]
  have hlen:=zrw ks
  have kid:∀ e0,∃ e1 vs,(∀ n,Sn n (szEs ks) (iter (z59 (z2p n) m ⟨k,nm,s,ks⟩) (0,e0,[])) (.inr (e1,vs)))∧Tl e0 (mEs m.f_vars ks) e1 vs:=by
   intro e0
   rw [zzd]
   refine z07x (body:=fun n=>z59 (z2p n) m ⟨k,nm,s,ks⟩) (mE m.f_vars) ks (by omega) (fun i x e acc hi hx hm ha hw=>?_) (fun n e acc=>?_) e0
   ·have hmx:=zrx hm
    obtain ⟨e',v,h1,h2⟩:=ih x (by omega) (by omega) (st m e) hv
    refine ⟨e',v,fun n=>?_,h2⟩
    unfold z59
    rw [if_pos (by simpa using hi)]
    show Sn n _ (idx ks (i:Int)>>=_) _
    rw [hx,obs]
    refine Sn.bind ((h1 n).mono hmx) (.inl ?_)
    rw [z7v (by simp;omega),obs]
    dsimp only
    rw [hw];rfl
   ·unfold z59
    rw [if_neg (by simp)]
  by_cases k1:k=1
  ·subst k1
   obtain ⟨e1,vs,h1,h2⟩:=kid m.f_e
   refine ⟨e1,⟨1,nm,0,vs⟩,fun n=>?_,?_⟩
   ·cases n with
    | zero=>exact .inr ⟨rfl,by omega⟩
    | succ n =>
     simp only [z2p]
     rw [if_pos (by rfl),hsz]
     refine Sn.bind ((h1 n).up.mono (by omega)) (.inl ?_)
     rfl
   ·simp only [mE]
    rw [if_neg (by decide),zrv]
    exact h2.mp fun l=>(⟨1,if (1:Int)=1 then nm else 0,0,l⟩:z0v)
  ·by_cases k2:k=2
   ·subst k2
    obtain ⟨e0,v0,h3,h4,h5⟩:=zea m s hv
    obtain ⟨e1,vs,h1,h2⟩:=kid e0
    refine ⟨e1,⟨2,0,v0,vs⟩,fun n=>?_,?_⟩
    ·cases n with
     | zero=>exact .inr ⟨rfl,by omega⟩
     | succ n =>
      simp only [z2p]
      rw [if_neg (by decide),if_pos (by rfl),hsz,h3,obs,el2]
      refine Sn.bind ((h1 n).up.mono (by omega)) (.inl ?_)
      rfl
    ·simp only [mE]
     rw [if_pos trivial]
     exact h4.bd (h2.mp fun l=>(⟨2,if (2:Int)=1 then nm else 0,v0,l⟩:z0v))
   ·obtain ⟨e1,vs,h1,h2⟩:=kid m.f_e
    refine ⟨e1,⟨k,0,0,vs⟩,fun n=>?_,?_⟩
    ·cases n with
     | zero=>exact .inr ⟨rfl,by omega⟩
     | succ n =>
      simp only [z2p]
      rw [if_neg (by simpa using k1),if_neg (by simpa using k2),hsz,el3]
      refine Sn.bind ((h1 n).up.mono (by omega)) (.inl ?_)
      rfl
    ·simp only [mE]
     rw [if_neg k2,zrv]
     have:=h2.mp fun l=>(⟨k,if k=1 then nm else 0,0,l⟩:z0v)
     rw [if_neg k1] at this ⊢
     exact this
theorem zj8 (m:z01) {x:z06} (h:szE x≤400000000000) (hv:m.f_vars.length≤400000000000):∃ e v,z66 m x=some (st m e,v)∧Tl m.f_e (mE m.f_vars x) e v:=by
 obtain ⟨e,v,h1,h2⟩:=mE_f _ x (Nat.le_refl _) h m hv
 exact ⟨e,v,Sn.unf h1,h2⟩
def mC (V:List ByteArray) (c:z4j):X z5w:=(mE V c.L).bd fun l=>(mE V c.R).mp fun r=>⟨c.Op,l,r⟩
theorem zo2 (m:z01) {c:z4j} (h:szC c≤400000000000) (hv:m.f_vars.length≤400000000000):∃ e v,z5v m c=some (st m e,v)∧Tl m.f_e (mC m.f_vars c) e v:=by
 unfold szC at h
 obtain ⟨e1,l,h1,h2⟩:=zj8 m (x:=c.L) (by omega) hv
 obtain ⟨e2,r,h3,h4⟩:=zj8 (st m e1) (x:=c.R) (by omega) hv
 refine ⟨e2,⟨c.Op,l,r⟩,?_,h2.bd (h4.mp _)⟩
 unfold z5v
 rw [h1,obs]
 show z66 (st m e1) c.R>>=_=_
 rw [h3];rfl
structure K where
 V:List ByteArray
 N:List ByteArray
 P:List z0a
 S:List z29
 p:Int
def kx (m:z01):K:=⟨m.f_vars,m.f_chans,m.f_p.Chans,m.f_s.Chans,m.f_proc⟩
structure Wf (m:z01):Prop where
 v:m.f_vars.length≤400000000000
 n:m.f_chans.length≤400000000000
 p:m.f_p.Chans.length=m.f_chans.length
 s:m.f_s.Chans.length=m.f_chans.length
 t:∀ c∈m.f_s.Chans,c.Tags.length≤400000000000
theorem Wf.st {m:z01} (h:Wf m) (e:Int):Wf (st m e):=⟨h.v,h.n,h.p,h.s,h.t⟩
def mCh (k:K) (f:z0a→Int) (name:ByteArray):X (Int × List ByteArray):=match fi name k.N with
 | none=>.er 8
 | some i=>match k.P[i]?,k.S[i]? with
  | some c,some a=>(X.must (f c==k.p) 9).mp fun _=>((i:Int),a.Tags)
  | _,_=>.er 8
theorem z07z {m:z01} (hw:Wf m) (s:ByteArray):∃ e c t,z4k m s=some (st m e,c,t)∧Tl m.f_e (mCh (kx m) z0a.From s) e (c,t)∧t.length≤400000000000:=by
 unfold z4k
 obtain ⟨e,v,h1,h2,h3⟩:=zq1 m s hw.n
 rw [h1,obs]
 by_cases he:e=0
 ·have hm:m.f_e=0:=by
   by_cases h0:m.f_e=0
   ·exact h0
   ·have:=h2.1 h0;omega
  have h4:=h2.2 hm
  unfold pl at h4
  cases hf:fi s m.f_chans with
  | none=>rw [hf] at h4;obtain ⟨h5,h6⟩:=h4;omega
  | some i =>
   rw [hf] at h4
   obtain ⟨_,rfl⟩:=h4
   have hlt:=zza hf
   have hp:i<m.f_p.Chans.length:=by rw [hw.p];exact hlt
   have hs:i<m.f_s.Chans.length:=by rw [hw.s];exact hlt
   rw [if_neg (by simp [st_e,he])]
   obtain ⟨e2,h5,h6⟩:=zbg (st m e) (m.f_p.Chans[i].From==m.f_proc) 9 (by decide)
   refine ⟨e2,(i:Int),m.f_s.Chans[i].Tags,?_,?_,hw.t _ (List.getElem_mem hs)⟩
   ·show (idx m.f_p.Chans (i:Int)>>=_)=_
    rw [zb4 hp,obs]
    show (some m.f_p.Chans[i].From>>=_)=_
    rw [obs]
    show (z14 (st m e) (m.f_p.Chans[i].From==m.f_proc) 9>>=_)=_
    rw [h5,obs]
    show (idx m.f_s.Chans (i:Int)>>=_)=_
    rw [zb4 hs,obs]
    rfl
   ·have e1:mCh (kx m) z0a.From s=(X.must (m.f_p.Chans[i].From==m.f_proc) 9).mp fun _=>((i:Int),m.f_s.Chans[i].Tags):=by
     unfold mCh
     show (match fi s m.f_chans with|none=>_|some i=>match m.f_p.Chans[i]?,m.f_s.Chans[i]? with|some c,some a=>_|_,_=>_)=_
     rw [hf]
     simp only [List.getElem?_eq_getElem hp,List.getElem?_eq_getElem hs]
     rfl
    rw [e1,hm,← he]
    exact Tl.mp h6 _
 ·rw [if_pos (by simpa [st_e] using he)]
  refine ⟨e,0,[],rfl,⟨h2.1,fun h0=>?_⟩,by simp⟩
  have h4:=h2.2 h0
  unfold pl at h4
  cases hf:fi s m.f_chans with
  | some i=>rw [hf] at h4;exact absurd h4.1 he
  | none =>
   rw [hf] at h4
   have e1:mCh (kx m) z0a.From s=.er 8:=by
    unfold mCh
    show (match fi s m.f_chans with|none=>_|some i=>match m.f_p.Chans[i]?,m.f_s.Chans[i]? with|some c,some a=>_|_,_=>_)=_
    rw [hf]
   rw [e1]
   exact h4
theorem to_f {m:z01} (hw:Wf m) (s:ByteArray):∃ e c t,z4v m s=some (st m e,c,t)∧Tl m.f_e (mCh (kx m) z0a.To s) e (c,t)∧t.length≤400000000000:=by
 unfold z4v
 obtain ⟨e,v,h1,h2,h3⟩:=zq1 m s hw.n
 rw [h1,obs]
 by_cases he:e=0
 ·have hm:m.f_e=0:=by
   by_cases h0:m.f_e=0
   ·exact h0
   ·have:=h2.1 h0;omega
  have h4:=h2.2 hm
  unfold pl at h4
  cases hf:fi s m.f_chans with
  | none=>rw [hf] at h4;obtain ⟨h5,h6⟩:=h4;omega
  | some i =>
   rw [hf] at h4
   obtain ⟨_,rfl⟩:=h4
   have hlt:=zza hf
   have hp:i<m.f_p.Chans.length:=by rw [hw.p];exact hlt
   have hs:i<m.f_s.Chans.length:=by rw [hw.s];exact hlt
   rw [if_neg (by simp [st_e,he])]
   obtain ⟨e2,h5,h6⟩:=zbg (st m e) (m.f_p.Chans[i].To==m.f_proc) 9 (by decide)
   refine ⟨e2,(i:Int),m.f_s.Chans[i].Tags,?_,?_,hw.t _ (List.getElem_mem hs)⟩
   ·show (idx m.f_p.Chans (i:Int)>>=_)=_
    rw [zb4 hp,obs]
    show (some m.f_p.Chans[i].To>>=_)=_
    rw [obs]
    show (z14 (st m e) (m.f_p.Chans[i].To==m.f_proc) 9>>=_)=_
    rw [h5,obs]
    show (idx m.f_s.Chans (i:Int)>>=_)=_
    rw [zb4 hs,obs]
    rfl
   ·have e1:mCh (kx m) z0a.To s=(X.must (m.f_p.Chans[i].To==m.f_proc) 9).mp fun _=>((i:Int),m.f_s.Chans[i].Tags):=by
     unfold mCh
     show (match fi s m.f_chans with|none=>_|some i=>match m.f_p.Chans[i]?,m.f_s.Chans[i]? with|some c,some a=>_|_,_=>_)=_
     rw [hf]
     simp only [List.getElem?_eq_getElem hp,List.getElem?_eq_getElem hs]
     rfl
    rw [e1,hm,← he]
    exact Tl.mp h6 _
 ·rw [if_pos (by simpa [st_e] using he)]
  refine ⟨e,0,[],rfl,⟨h2.1,fun h0=>?_⟩,by simp⟩
  have h4:=h2.2 h0
  unfold pl at h4
  cases hf:fi s m.f_chans with
  | some i=>rw [hf] at h4;exact absurd h4.1 he
  | none =>
   rw [hf] at h4
   have e1:mCh (kx m) z0a.To s=.er 8:=by
    unfold mCh
    show (match fi s m.f_chans with|none=>_|some i=>match m.f_p.Chans[i]?,m.f_s.Chans[i]? with|some c,some a=>_|_,_=>_)=_
    rw [hf]
   rw [e1]
   exact h4
abbrev noE:z0v:=⟨0,0,0,[]⟩
abbrev noC:z5w:=⟨0,noE,noE⟩
mutual
def mS (k:K):z05→X z0h
 | .mk d n t e c b l a =>
  if d=1 then (pl k.V n).bd fun v=>(mE k.V e).mp fun x=>.mk d v 0 0 x noC [] [] []
  else if d=7 then (pl k.V n).mp fun v=>.mk d v 0 0 noE noC [] [] []
  else if d=6 then (mC k.V c).mp fun x=>.mk d 0 0 0 noE x [] [] []
  else if d=3 then (mC k.V c).bd fun x=>(mL k b).mp fun y=>.mk d 0 0 0 noE x y [] []
  else if d=2 then (mC k.V c).bd fun x=>(mL k b).bd fun y=>(mL k l).mp fun z=>.mk d 0 0 0 noE x y z []
  else if d=4 then (mCh k z0a.From n).bd fun q=>(pl q.2 t).bd fun u=>(mE k.V e).mp fun x=>.mk d 0 q.1 u x noC [] [] []
  else if d=5 then (mCh k z0a.To n).bd fun q=>(mA k q.2 [] a).mp fun y=>.mk d 0 q.1 0 noE noC [] [] y
  else .ok (.mk d 0 0 0 noE noC [] [] [])
def mL (k:K):List z05→X (List z0h)
 | []=>.ok []
 | s::r=>(mS k s).bd fun x=>(mL k r).mp (x::·)
def mA (k:K) (tags had:List ByteArray):List z1r→X (List z3z)
 | []=>.ok []
 | .mk t v b::r=>(pl tags t).bd fun x=>(X.must (!(fi t had).isSome) 7).bd fun _=>(pl k.V v).bd fun y=>(mL k b).bd fun l=>(mA k tags (had++[t]) r).mp (.mk x y l::·)
end
theorem zze (k:K):∀ l,mL k l=mapX (mS k) l
 | []=>by simp only [mL,mapX]
 | e::r=>by simp only [mL,mapX,zze k r]
theorem zuz:∀ l:List z05,l.length≤szL l
 | []=>by simp
 | s::r=>by have:=zuz r;cases s;simp only [szL,szS,List.length_cons];omega
theorem zv0:∀ {l:List z05} {x:z05},x∈l→szS x+1≤szL l
 | y::r,x,h=>by
  have:=z95 r
  rcases List.mem_cons.1 h with rfl|h
  ·simp only [szL];omega
  ·have:=zv0 h;simp only [szL];omega
theorem zv1:∀ l:List z1r,l.length≤szA l
 | []=>by simp
 | .mk t v b::r=>by have:=zv1 r;simp only [szA,List.length_cons];omega
theorem z039 (m:z01) (l:List ByteArray) (s:ByteArray) (hl:l.length≤400000000000):∃ e,z6e m l s=some (st m e,l++[s],l++[s])∧Tl m.f_e (X.must (!(fi s l).isSome) 7) e ():=by
 unfold z6e
 rw [zmb s hl,obs,zux]
 obtain ⟨e,h1,h2⟩:=zbg m (!(fi s l).isSome) 7 (by decide)
 rw [h1,obs,z7v (by simp;omega),obs]
 exact ⟨e,rfl,h2⟩
theorem z080 {m:z01} (hw:Wf m) (s:z05) (v1:z01 × Int × List ByteArray) (ht:v1.2.2.length≤400000000000) (hsz:szA s.Arms≤400000000000) {H:Nat}
  (hb:∀ (x:z1r),x∈s.Arms→∀ e0,∃ e v,(∀ n,Sn n H (z1j n (st m e0) x.Body) (st m e,v))∧Tl e0 (mL (kx m) x.Body) e v) :
  ∀ (l:List z1r) (i:Nat) (e0:Int) (had:List ByteArray) (acc:List z3z),s.Arms.drop i=l→i≤s.Arms.length→acc.length=i→had.length=i →
   ∃ e vs,(∀ n,Sn n H (iter (z7c (z1j n) (z1u n) (z36 n) m s v1) ((i:Int),e0,had,acc)) (.inr (e,acc++vs)))∧Tl e0 (mA (kx m) v1.2.2 had l) e vs:=by
 have hlen:=zv1 s.Arms
 intro l
 induction l with
 | nil =>
  intro i e0 had acc hd hi ha hh
  have:i=s.Arms.length:=by have:=List.drop_eq_nil_iff.1 hd;omega
  subst this
  refine ⟨e0,[],fun n=>.inl ?_,?_⟩
  ·rw [z4l (r:=.inr (e0,acc))]
   ·simp
   ·unfold z7c;rw [if_neg (by simp)]
  ·simp only [mA];exact Tl.pure _ _
 | cons x r ih =>
  intro i e0 had acc hd hi ha hh
  have hlt:i<s.Arms.length:=by
   refine Nat.lt_of_not_le fun h=>?_
   rw [List.drop_of_length_le h] at hd;cases hd
  rw [List.drop_eq_getElem_cons hlt] at hd
  injection hd with h1 h2
  have hi2:idx s.Arms (i:Int)=some x:=by rw [zb4 hlt,h1]
  have hm:x∈s.Arms:=by rw [← h1];exact List.getElem_mem hlt
  have hwr:IntKind.i64.wrap ((i:Int)+1)=((i+1:Nat):Int):=by rw [w64 (by omega) (by omega)];omega
  obtain ⟨e1,t1,a1,a2,_⟩:=zea (st m e0) x.Tag ht
  obtain ⟨e2,b1,b2⟩:=z039 (st m e1) had x.Tag (by omega)
  obtain ⟨e3,t3,c1,c2,_⟩:=zea (st m e2) (l:=m.f_vars) x.Var hw.v
  obtain ⟨e4,t4,d1,d2⟩:=hb x hm e3
  obtain ⟨e5,vs,f1,f2⟩:=ih (i+1) e4 (had++[x.Tag]) (acc++[.mk t1 t3 t4]) h2 hlt (by simp;omega) (by simp;omega)
  refine ⟨e5,.mk t1 t3 t4::vs,fun n=>?_,?_⟩
  ·rw [zce]
   refine Sn.bind (r:=.inl (((i+1:Nat):Int),e4,had++[x.Tag],acc++[.mk t1 t3 t4])) ?_ ?_
   ·unfold z7c
    rw [if_pos (by simpa using hlt)]
    show Sn n H (idx s.Arms (i:Int)>>=_) _
    rw [hi2,obs]
    show Sn n H (z2o (st m e0) v1.2.2 x.Tag>>=_) _
    rw [a1,obs]
    show Sn n H (z6e (st m e1) had x.Tag>>=_) _
    rw [b1,obs]
    show Sn n H (z2o (st m e2) m.f_vars x.Var>>=_) _
    rw [c1,obs]
    refine Sn.bind (d1 n) (.inl ?_)
    rw [z7v (by simp;omega),obs]
    dsimp only
    rw [hwr];rfl
   ·have:=f1 n
    simpa using this
  ·cases x with
   | mk t v b =>
    simp only [mA]
    exact a2.bd (b2.bd (c2.bd (d2.bd (f2.mp _))))
theorem zmc (k:Int) (n t:ByteArray) (e:z06) (c:z4j) (b l:List z05) (a:List z1r):(z05.mk k n t e c b l a).Arms=a:=rfl
theorem nk (d j:Int) (h:(d==j)=false) {n t:ByteArray} {e:z06} {c:z4j} {b l:List z05} {a:List z1r}:¬ (((z05.mk d n t e c b l a).Kind==j)=true):=by
 show ¬ ((d==j)=true)
 rw [h];decide
theorem zv2:∀ {l:List z1r} {x:z1r},x∈l→szL x.Body+3≤szA l
 | .mk t v b::r,x,h=>by
  have hp:1≤szA r:=by cases r with
   | nil=>simp [szA]
   | cons y r=>cases y;simp only [szA];omega
  rcases List.mem_cons.1 h with rfl|h
  ·simp only [szA];show szL b+3≤_;omega
  ·have:=zv2 h;simp only [szA];omega
theorem mL_f:∀ (N:Nat) (l:List z05),szL l≤N→N≤400000000000→∀ m:z01,Wf m→∃ e v,(∀ n,Sn n (szL l) (z1j n m l) (st m e,v))∧Tl m.f_e (mL (kx m) l) e v:=by
 intro N
 induction N with
 | zero=>intro l h;have:=z95 l;omega
 | succ N ih =>
  intro l h hN m hw
  have stm:∀ (s:z05),szS s≤N→∀ m:z01,Wf m→∃ e v,(∀ n,Sn n (szS s) (z1u n m s) (st m e,v))∧Tl m.f_e (mS (kx m) s) e v:=by
   intro s hs m hw
   obtain ⟨d,nm,t,e,c,b,el,a⟩:=s
   have hz:szS (.mk d nm t e c b el a)=4+szE e+szC c+szL b+szL el+szA a:=by simp only [szS]
   have p1:=z95 b
   have p2:=z95 el
   have z0:∀ {r:z01 × z0h},Sn 0 (szS (.mk d nm t e c b el a)) (z1u 0 m (.mk d nm t e c b el a)) r:=fun {r}=>.inr ⟨rfl,by omega⟩
   by_cases k1:d=1
   ·subst k1
    obtain ⟨e1,v1,a1,a2,_⟩:=zea m nm hw.v
    obtain ⟨e2,v2,b1,b2⟩:=zj8 (st m e1) (x:=e) (by omega) hw.v
    refine ⟨e2,.mk 1 v1 0 0 v2 noC [] [] [],fun n=>?_,?_⟩
    ·cases n with
     | zero=>exact z0
     | succ n =>
      refine .inl ?_
      simp only [z1u]
      rw [if_pos (by rfl)]
      show z2o m m.f_vars nm>>=_=_
      rw [a1,obs]
      show z66 (st m e1) e>>=_=_
      rw [b1];rfl
    ·simp only [mS];rw [if_pos trivial];exact a2.bd (b2.mp _)
   by_cases k7:d=7
   ·subst k7
    obtain ⟨e1,v1,a1,a2,_⟩:=zea m nm hw.v
    refine ⟨e1,.mk 7 v1 0 0 noE noC [] [] [],fun n=>?_,?_⟩
    ·cases n with
     | zero=>exact z0
     | succ n =>
      refine .inl ?_
      simp only [z1u]
      rw [if_neg (nk 7 1 (by decide)),if_pos (by rfl)]
      show z2o m m.f_vars nm>>=_=_
      rw [a1];rfl
    ·simp only [mS];rw [if_neg (by decide),if_pos trivial];exact a2.mp _
   by_cases k6:d=6
   ·subst k6
    obtain ⟨e1,v1,a1,a2⟩:=zo2 m (c:=c) (by omega) hw.v
    refine ⟨e1,.mk 6 0 0 0 noE v1 [] [] [],fun n=>?_,?_⟩
    ·cases n with
     | zero=>exact z0
     | succ n =>
      refine .inl ?_
      simp only [z1u]
      rw [if_neg (nk 6 1 (by decide)),if_neg (nk 6 7 (by decide)),if_pos (by rfl)]
      show z5v m c>>=_=_
      rw [a1];rfl
    ·simp only [mS];rw [if_neg (by decide),if_neg (by decide),if_pos trivial];exact a2.mp _
   by_cases k3:d=3
   ·subst k3
    obtain ⟨e1,v1,a1,a2⟩:=zo2 m (c:=c) (by omega) hw.v
    obtain ⟨e2,v2,b1,b2⟩:=ih b (by omega) (by omega) (st m e1) (hw.st e1)
    refine ⟨e2,.mk 3 0 0 0 noE v1 v2 [] [],fun n=>?_,?_⟩
    ·cases n with
     | zero=>exact z0
     | succ n =>
      simp only [z1u]
      rw [if_neg (nk 3 1 (by decide)),if_neg (nk 3 7 (by decide)),if_neg (nk 3 6 (by decide)),if_pos (by rfl)]
      show Sn (n+1) _ (z5v m c>>=_) _
      rw [a1,obs]
      show Sn (n+1) _ (z1j n (st m e1) b>>=_) _
      exact Sn.bind ((b1 n).up.mono (by omega)) (.inl rfl)
    ·simp only [mS];rw [if_neg (by decide),if_neg (by decide),if_neg (by decide),if_pos trivial];exact a2.bd (b2.mp _)
   by_cases k2:d=2
   ·subst k2
    obtain ⟨e1,v1,a1,a2⟩:=zo2 m (c:=c) (by omega) hw.v
    obtain ⟨e2,v2,b1,b2⟩:=ih b (by omega) (by omega) (st m e1) (hw.st e1)
    obtain ⟨e3,v3,c1,c2⟩:=ih el (by omega) (by omega) (st m e2) (hw.st e2)
    refine ⟨e3,.mk 2 0 0 0 noE v1 v2 v3 [],fun n=>?_,?_⟩
    ·cases n with
     | zero=>exact z0
     | succ n =>
      simp only [z1u]
      rw [if_neg (nk 2 1 (by decide)),if_neg (nk 2 7 (by decide)),if_neg (nk 2 6 (by decide)),if_neg (nk 2 3 (by decide)),if_pos (by rfl)]
      show Sn (n+1) _ (z5v m c>>=_) _
      rw [a1,obs]
      show Sn (n+1) _ (z1j n (st m e1) b>>=_) _
      refine Sn.bind ((b1 n).up.mono (by omega)) ?_
      show Sn (n+1) _ (z1j n (st m e2) el>>=_) _
      exact Sn.bind ((c1 n).up.mono (by omega)) (.inl rfl)
    ·simp only [mS];rw [if_neg (by decide),if_neg (by decide),if_neg (by decide),if_neg (by decide),if_pos trivial];exact a2.bd (b2.bd (c2.mp _))
   by_cases k4:d=4
   ·subst k4
    obtain ⟨e1,cc,tt,a1,a2,a3⟩:=z07z hw nm
    obtain ⟨e2,v2,b1,b2,_⟩:=zea (st m e1) t a3
    obtain ⟨e3,v3,c1,c2⟩:=zj8 (st m e2) (x:=e) (by omega) hw.v
    refine ⟨e3,.mk 4 0 cc v2 v3 noC [] [] [],fun n=>?_,?_⟩
    ·cases n with
     | zero=>exact z0
     | succ n =>
      refine .inl ?_
      simp only [z1u]
      rw [if_neg (nk 4 1 (by decide)),if_neg (nk 4 7 (by decide)),if_neg (nk 4 6 (by decide)),if_neg (nk 4 3 (by decide)),if_neg (nk 4 2 (by decide)),if_pos (by rfl)]
      unfold zbl
      show ((z4k m nm>>=_)>>=_)=_
      rw [a1,obs]
      show ((z2o (st m e1) tt t>>=_)>>=_)=_
      rw [b1,obs]
      show ((z66 (st m e2) e>>=_)>>=_)=_
      rw [c1];rfl
    ·simp only [mS];rw [if_neg (by decide),if_neg (by decide),if_neg (by decide),if_neg (by decide),if_neg (by decide),if_pos trivial];exact a2.bd (b2.bd (c2.mp _))
   by_cases k5:d=5
   ·subst k5
    obtain ⟨e1,cc,tt,a1,a2,a3⟩:=to_f hw nm
    obtain ⟨e2,vs,b1,b2⟩:=z080 hw (.mk 5 nm t e c b el a) (st m e1,cc,tt) a3 (by rw [zmc];omega) (H:=szA a) (fun x hx e0=>by
     rw [zmc] at hx
     have:=zv2 hx
     obtain ⟨e',v,q1,q2⟩:=ih x.Body (by omega) (by omega) (st m e0) (hw.st e0)
     exact ⟨e',v,fun n=>(q1 n).mono (by omega),q2⟩) a 0 e1 [] [] rfl (by omega) rfl rfl
    refine ⟨e2,.mk 5 0 cc 0 noE noC [] [] vs,fun n=>?_,?_⟩
    ·cases n with
     | zero=>exact z0
     | succ n =>
      simp only [z1u]
      rw [if_neg (nk 5 1 (by decide)),if_neg (nk 5 7 (by decide)),if_neg (nk 5 6 (by decide)),if_neg (nk 5 3 (by decide)),if_neg (nk 5 2 (by decide)),if_neg (nk 5 4 (by decide)),if_pos (by rfl)]
      refine Sn.bind (r:=(st m e2,.mk 5 0 cc 0 noE noC [] [] vs)) ?_ (.inl rfl)
      cases n with
      | zero=>exact .inr ⟨by simp only [z36],by omega⟩
      | succ n =>
       simp only [z36]
       show Sn (n+1+1) _ (z4v m nm>>=_) _
       rw [a1,obs]
       refine Sn.bind (((b1 n).up.up).mono (by omega)) (.inl ?_)
       simp only [List.nil_append]
       rfl
    ·simp only [mS];rw [if_neg (by decide),if_neg (by decide),if_neg (by decide),if_neg (by decide),if_neg (by decide),if_neg (by decide),if_pos trivial];exact a2.bd (b2.mp _)
   refine ⟨m.f_e,.mk d 0 0 0 noE noC [] [] [],fun n=>?_,?_⟩
   ·cases n with
    | zero=>exact z0
    | succ n =>
     refine .inl ?_
     simp only [z1u]
     rw [if_neg (nk d 1 (by simpa using k1)),if_neg (nk d 7 (by simpa using k7)),if_neg (nk d 6 (by simpa using k6)),if_neg (nk d 3 (by simpa using k3)),if_neg (nk d 2 (by simpa using k2)),if_neg (nk d 4 (by simpa using k4)),if_neg (nk d 5 (by simpa using k5))]
     rfl
   ·simp only [mS];rw [if_neg k1,if_neg k7,if_neg k6,if_neg k3,if_neg k2,if_neg k4,if_neg k5];exact Tl.pure _ _
  have hlen:=zuz l
  have hp:=z95 l
  obtain ⟨e1,vs,h1,h2⟩:=z05e (body:=fun n=>z60 (z1j n) (z1u n) (z36 n) m l) (H:=szL l - 1) (mS (kx m)) l (by omega) (fun i x acc hi hx hm ha hwr=>by
   have hmx:=zv0 hm
   obtain ⟨e',v,q1,q2⟩:=stm x (by omega) (st m 0) (hw.st 0)
   refine ⟨e',v,fun n=>?_,q2⟩
   unfold z60
   rw [if_pos (by simpa using hi)]
   show Sn n _ (idx l (i:Int)>>=_) _
   rw [hx,obs,if_neg (by simp)]
   refine Sn.bind ((q1 n).mono (by omega)) (.inl ?_)
   rw [z7v (by simp;omega),obs]
   dsimp only
   rw [hwr];rfl) (fun n i e acc hi he=>by
   unfold z60
   rw [if_pos (by simpa using hi)]
   show (idx l (i:Int)>>=_)=_
   rw [zb4 hi,obs,if_pos (by simpa using he)]) (fun n e acc=>by
   unfold z60
   rw [if_neg (by simp)]) m.f_e
  refine ⟨e1,vs,fun n=>?_,by rw [zze];exact h2⟩
  cases n with
  | zero=>exact .inr ⟨by simp only [z1j],by omega⟩
  | succ n =>
   simp only [z1j]
   refine Sn.bind ((h1 n).up.mono (by omega)) (.inl rfl)
theorem ztg {m:z01} (hw:Wf m) {l:List z05} (h:szL l≤400000000000):∃ e v,zax m l=some (st m e,v)∧Tl m.f_e (mL (kx m) l) e v:=by
 obtain ⟨e,v,h1,h2⟩:=mL_f _ l (Nat.le_refl _) h m hw
 exact ⟨e,v,Sn.unf h1,h2⟩
def fX {α β:Type} (f:α→β→X α) (x:X α) (l:List β):X α:=l.foldl (fun x b=>x.bd fun a=>f a b) x
theorem zg4 {α β:Type} (f:α→β→X α) (x:X α) (l:List β) (b:β):fX f x (l++[b])=(fX f x l).bd fun a=>f a b:=by simp [fX]
theorem lp {β σ O R:Type} {body:Int × σ→Option (Sum (Int × σ) (Sum O R))} {out:σ→R} (a1:List β) (hlen:a1.length≤400000000000) (I:Nat→σ→Prop)
  (hs:∀ (i:Nat) x s,(h:i<a1.length)→idx a1 (i:Int)=some x→x∈a1→a1.take (i+1)=a1.take i++[x]→a1.drop i=x::a1.drop (i+1)→IntKind.i64.wrap ((i:Int)+1)=((i+1:Nat):Int)→I i s→∃ s',body ((i:Int),s)=some (.inl (((i+1:Nat):Int),s'))∧I (i+1) s')
  (he:∀ s,body ((a1.length:Int),s)=some (.inr (.inr (out s)))) {s0:σ} (h0:I 0 s0):∃ s,iter body (0,s0)=some (.inr (out s))∧I a1.length s:=by
 have key:∀ (k i:Nat) (s:σ),a1.length - i=k→i≤a1.length→I i s→∃ s',iter body ((i:Int),s)=some (.inr (out s'))∧I a1.length s':=by
  intro k
  induction k with
  | zero =>
   intro i s hk hi hI
   have:i=a1.length:=by omega
   subst this
   exact ⟨s,z4l (he s),hI⟩
  | succ k ih =>
   intro i s hk hi hI
   have hlt:i<a1.length:=by omega
   have hw:IntKind.i64.wrap ((i:Int)+1)=((i+1:Nat):Int):=by rw [w64 (by omega) (by omega)];omega
   obtain ⟨s',h1,h2⟩:=hs i a1[i] s hlt (zb4 hlt) (List.getElem_mem hlt) (by simp) (List.drop_eq_getElem_cons hlt) hw hI
   obtain ⟨s2,h3,h4⟩:=ih (i+1) s' (by omega) hlt h2
   exact ⟨s2,by rw [z94 h1];exact h3,h4⟩
 exact key _ 0 s0 rfl (by omega) h0
def mAd (had:List ByteArray) (s:ByteArray):X (List ByteArray):=(X.must (!(fi s had).isSome) 7).mp fun _=>had++[s]
def mAp (l:List ByteArray):X (List ByteArray):=fX mAd (.ok []) l
theorem z09s (m:z01) (s:ByteArray) (hl:m.f_chans.length≤400000000000):∃ e,z9e m s=some (z01.mk m.f_s m.f_p [] m.f_procs m.f_proc m.f_vars e,m.f_chans++[s])∧Tl m.f_e (X.must (!(fi s m.f_chans).isSome) 7) e ():=by
 unfold z9e
 rw [zmb s hl,obs,zux]
 obtain ⟨e,h1,h2⟩:=zbg m (!(fi s m.f_chans).isSome) 7 (by decide)
 rw [h1,obs,z7v (by simp;omega),obs]
 exact ⟨e,rfl,h2⟩
theorem z081 (m:z01) (s:ByteArray) (hl:m.f_procs.length≤400000000000):∃ e,z82 m s=some (z01.mk m.f_s m.f_p m.f_chans [] m.f_proc m.f_vars e,m.f_procs++[s])∧Tl m.f_e (X.must (!(fi s m.f_procs).isSome) 7) e ():=by
 unfold z82
 rw [zmb s hl,obs,zux]
 obtain ⟨e,h1,h2⟩:=zbg m (!(fi s m.f_procs).isSome) 7 (by decide)
 rw [h1,obs,z7v (by simp;omega),obs]
 exact ⟨e,rfl,h2⟩
theorem zzf (m:z01) (l:List ByteArray) (hl:l.length≤400000000):∃ e v,z6f m l=some (st m e)∧Tl m.f_e (mAp l) e v∧v=l:=by
 unfold z6f
 obtain ⟨s,h1,h2,h3⟩:=lp (body:=z6s m l) (out:=fun s:Int × List ByteArray=>s.1) l (by omega) (fun i s=>Tl m.f_e (fX mAd (.ok []) (l.take i)) s.1 s.2∧s.2=l.take i)
  (fun i x s h hi hm ht hd hw hI=>by
   obtain ⟨e,had⟩:=s
   obtain ⟨hI,rfl⟩:=hI
   obtain ⟨e1,a1,a2⟩:=z039 (st m e) (l.take i) x (by simp;omega)
   refine ⟨(e1,l.take i++[x]),?_,?_,ht.symm⟩
   ·unfold z6s
    rw [if_pos (by simpa using h),hi,obs]
    show z6e (st m e) (l.take i) x>>=_=_
    rw [a1,obs]
    try dsimp only
    rw [hw];rfl
   ·rw [ht,zg4]
    exact hI.bd (a2.mp fun _=>l.take i++[x]))
  (fun s=>by unfold z6s;rw [if_neg (by simp)]) (s0:=(m.f_e,[])) ⟨by simpa [fX] using Tl.pure _ _,by simp⟩
 rw [h1]
 refine ⟨s.1,s.2,rfl,?_,by rw [h3];simp⟩
 rw [List.take_length] at h2;exact h2
theorem z01p (m:z01) (b:Bool) {k:Int} (hk:k≠0):∃ e,(z14 m b k>>=fun v=>some v.f_e)=some e∧Tl m.f_e (X.must b k) e ():=by
 obtain ⟨e,h1,h2⟩:=zbg m b k hk
 exact ⟨e,by rw [h1];rfl,h2⟩
theorem if2 {a b:Bool} {m:z01} {x:Option Int} {k:Int} (hk:k≠0) (hx:∃ e,x=some e∧Tl m.f_e (X.must b k) e ()):∃ e,(if a=true then x else z14 m false k>>=fun v=>some v.f_e)=some e∧Tl m.f_e (X.must (a&&b) k) e ():=by
 cases a with
 | true=>obtain ⟨e,h1,h2⟩:=hx;exact ⟨e,by rw [if_pos rfl];exact h1,by simpa using h2⟩
 | false =>
  obtain ⟨e,h1,h2⟩:=z01p m false hk
  exact ⟨e,by rw [if_neg (by decide)];exact h1,by simpa using h2⟩
def ch0 (c:z29):z0a:=⟨c.Kind,c.Size,0,0,(c.Tags.length:Int),[]⟩
def mDe (N:List ByteArray) (c:z29):X (List ByteArray):=(X.must (!(fi c.Name N).isSome) 7).bd fun _=>(X.must (decide (c.Size≥1)&&(decide (c.Size≤16)&&decide ((c.Tags.length:Int)≤4))) 10).bd fun _=>(mAp c.Tags).mp fun _=>N++[c.Name]
def zmw (l:List z29):X (List ByteArray):=(X.must (decide ((l.length:Int)≤4)) 10).bd fun _=>fX mDe (.ok []) l
theorem zzg (s:z17) (hl:s.Chans.length≤400000000) (ht:∀ c∈s.Chans,c.Tags.length≤400000000) :
  ∃ e,z8a (z01.mk s ⟨[],[]⟩ [] [] 0 [] 0)=some (z01.mk s ⟨s.Chans.map ch0,[]⟩ (s.Chans.map (·.Name)) [] 0 [] e)∧Tl 0 (zmw s.Chans) e (s.Chans.map (·.Name)):=by
 unfold z8a
 obtain ⟨e0,g1,g2⟩:=zbg (z01.mk s ⟨[],[]⟩ [] [] 0 [] 0) (decide ((s.Chans.length:Int)≤4)) 10 (by decide)
 rw [g1,obs]
 obtain ⟨z,h1,h2,h3,h4⟩:=lp (body:=z64 (z01.mk s ⟨[],[]⟩ [] [] 0 [] 0)) (out:=fun s:Int × List z0a × List ByteArray=>s) s.Chans (by omega)
  (fun i z=>Tl e0 (fX mDe (.ok []) (s.Chans.take i)) z.1 z.2.2∧z.2.1=(s.Chans.take i).map ch0∧z.2.2=(s.Chans.take i).map (·.Name))
  (fun i x z h hi hm htk hd hw hI=>by
   obtain ⟨e,P,N⟩:=z
   obtain ⟨hI,hP,hN⟩:=hI
   dsimp only at hI hP hN
   have hNl:N.length=i:=by rw [hN];simp;omega
   have hPl:P.length=i:=by rw [hP];simp;omega
   obtain ⟨e1,a1,a2⟩:=z09s (z01.mk s ⟨P,[]⟩ N [] 0 [] e) x.Name (by show N.length≤_;omega)
   have mm:z01:=z01.mk s ⟨P,[]⟩ (N++[x.Name]) [] 0 [] e1
   obtain ⟨e2,b1,b2⟩:=if2 (a:=decide (x.Size≥1)) (m:=z01.mk s ⟨P,[]⟩ (N++[x.Name]) [] 0 [] e1) (k:=10) (by decide) (if2 (a:=decide (x.Size≤16)) (k:=10) (by decide) (z01p _ (decide ((x.Tags.length:Int)≤4)) (by decide)))
   obtain ⟨e3,v3,c1,c2,c3⟩:=zzf (z01.mk s ⟨P,[]⟩ (N++[x.Name]) [] 0 [] e2) x.Tags (ht x hm)
   refine ⟨(e3,P++[ch0 x],N++[x.Name]),?_,?_,?_,?_⟩
   ·unfold z64
    rw [if_pos (by simpa using h)]
    show idx s.Chans (i:Int)>>=_=_
    rw [hi,obs]
    show z9e (z01.mk s ⟨P,[]⟩ N [] 0 [] e) x.Name>>=_=_
    rw [a1,obs]
    refine (congrArg (·>>=_) b1).trans ?_
    rw [obs]
    show z6f (z01.mk s ⟨P,[]⟩ (N++[x.Name]) [] 0 [] e2) x.Tags>>=_=_
    rw [c1,obs,z7v (by simp;omega),obs]
    try dsimp only
    rw [hw];rfl
   ·rw [htk,zg4]
    exact hI.bd (a2.bd (b2.bd (c2.mp fun _=>N++[x.Name])))
   ·simp [htk,hP]
   ·simp [htk,hN])
  (fun s=>by unfold z64;rw [if_neg (by simp)]) (s0:=(e0,[],[])) ⟨by simpa [fX] using Tl.pure _ _,by simp,by simp⟩
 refine ⟨z.1,?_,?_⟩
 ·refine (congrArg (·>>=_) h1).trans ?_
  rw [List.take_length] at h3 h4
  rw [obs]
  simp [h3,h4]
 ·rw [List.take_length] at h2 h4
  rw [← h4]
  exact g2.bd h2
def ch1 (procs:List ByteArray) (c:z29):X z0a:=(pl procs c.From).bd fun f=>(pl procs c.To).bd fun t=>(X.must (f != t) 9).mp fun _=>⟨c.Kind,c.Size,f,t,(c.Tags.length:Int),[]⟩
def mCs (procs:List ByteArray) (acc:List z0a) (c:z29):X (List z0a):=(ch1 procs c).mp fun x=>acc++[x]
def zmd (s:z17):X (List ByteArray × List z0a):=(X.must (decide ((s.Procs.length:Int)≥1)&&decide ((s.Procs.length:Int)≤4)) 10).bd fun _ =>
 (mAp (s.Procs.map (·.Name))).bd fun N=>(fX (mCs N) (.ok []) s.Chans).mp fun l=>(N,l)
theorem zzh {α:Type} (a:List α) (x y:α) (b:List α) {i:Nat} (h:a.length=i):seti (a++x::b) (i:Int) y=a++y::b:=by
 subst h;unfold seti;simp
theorem zzi {α:Type} (a:List α) (x:α) (b:List α) {i:Nat} (h:a.length=i):idx (a++x::b) (i:Int)=some x:=by
 subst h;unfold idx;rw [if_pos (by omega)];simp
theorem z082 (s:z17) (N:List ByteArray) (e0:Int) (hl:s.Chans.length≤400000000) (hp:s.Procs.length≤400000000) :
  ∃ e L,z9y (z01.mk s ⟨s.Chans.map ch0,[]⟩ N [] 0 [] e0)=some (z01.mk s ⟨L,[]⟩ N (s.Procs.map (·.Name)) 0 [] e)∧Tl e0 (zmd s) e (s.Procs.map (·.Name),L):=by
 unfold z9y
 obtain ⟨e1,a1,a2⟩:=if2 (a:=decide ((s.Procs.length:Int)≥1)) (m:=z01.mk s ⟨s.Chans.map ch0,[]⟩ N [] 0 [] e0) (k:=10) (by decide) (z01p _ (decide ((s.Procs.length:Int)≤4)) (by decide))
 have hap:∀ i,fX mAd (.ok []) ((s.Procs.map (·.Name)).take i)=fX mAd (.ok []) ((s.Procs.take i).map (·.Name)):=fun i=>by rw [List.map_take]
 obtain ⟨z,h1,h2,h3⟩:=lp (body:=z78 (z01.mk s ⟨s.Chans.map ch0,[]⟩ N [] 0 [] e0)) (out:=fun s:Int × List ByteArray=>s) s.Procs (by omega)
  (fun i z=>Tl e1 (fX mAd (.ok []) ((s.Procs.take i).map (·.Name))) z.1 z.2∧z.2=(s.Procs.take i).map (·.Name))
  (fun i x z h hi hm htk hd hw hI=>by
   obtain ⟨e,P⟩:=z
   obtain ⟨hI,hP⟩:=hI
   dsimp only at hI hP
   have hPl:P.length=i:=by rw [hP];simp;omega
   obtain ⟨e2,b1,b2⟩:=z081 (z01.mk s ⟨s.Chans.map ch0,[]⟩ N P 0 [] e) x.Name (by show P.length≤_;omega)
   refine ⟨(e2,P++[x.Name]),?_,?_,?_⟩
   ·unfold z78
    rw [if_pos (by simpa using h)]
    show idx s.Procs (i:Int)>>=_=_
    rw [hi,obs]
    show z82 (z01.mk s ⟨s.Chans.map ch0,[]⟩ N P 0 [] e) x.Name>>=_=_
    rw [b1,obs]
    try dsimp only
    rw [hw]
   ·rw [htk,List.map_append,List.map_cons,List.map_nil,zg4]
    exact hI.bd (b2.mp fun _=>P++[x.Name])
   ·simp [htk,hP])
  (fun s=>by unfold z78;rw [if_neg (by simp)]) (s0:=(e1,[])) ⟨by simpa [fX] using Tl.pure _ _,by simp⟩
 obtain ⟨e2,P⟩:=z
 rw [List.take_length] at h2 h3
 dsimp only at h2 h3
 have hPl:P.length=s.Procs.length:=by rw [h3];simp
 obtain ⟨y,q1,D,q2,q3,q4⟩:=lp (body:=z79 (z01.mk s ⟨s.Chans.map ch0,[]⟩ N [] 0 [] e0) (e2,P)) (out:=fun s:Int × List z0a=>s) s.Chans (by omega)
  (fun i z=>∃ D:List z0a,D.length=i∧z.2=D++(s.Chans.drop i).map ch0∧Tl e2 (fX (mCs P) (.ok []) (s.Chans.take i)) z.1 D)
  (fun i x z h hi hm htk hd hw hI=>by
   obtain ⟨e,L⟩:=z
   obtain ⟨D,hD,hL,hI⟩:=hI
   dsimp only at hI hL
   rw [hd,List.map_cons] at hL
   obtain ⟨e3,f,b1,b2,_⟩:=zzc (z01.mk s ⟨L,[]⟩ N P 0 [] e) x.From (by show P.length≤_;omega)
   obtain ⟨e4,t,c1,c2,_⟩:=zzc (z01.mk s ⟨D++⟨x.Kind,x.Size,f,0,(x.Tags.length:Int),[]⟩::(s.Chans.drop (i+1)).map ch0,[]⟩ N P 0 [] e3) x.To (by show P.length≤_;omega)
   obtain ⟨e5,d1,d2⟩:=zbg (z01.mk s ⟨D++⟨x.Kind,x.Size,f,t,(x.Tags.length:Int),[]⟩::(s.Chans.drop (i+1)).map ch0,[]⟩ N P 0 [] e4) (f != t) 9 (by decide)
   refine ⟨(e5,D++⟨x.Kind,x.Size,f,t,(x.Tags.length:Int),[]⟩::(s.Chans.drop (i+1)).map ch0),?_,D++[⟨x.Kind,x.Size,f,t,(x.Tags.length:Int),[]⟩],by simp [hD],by simp,?_⟩
   ·unfold z79
    rw [if_pos (by simpa using h)]
    show idx s.Chans (i:Int)>>=_=_
    rw [hi,obs]
    show idx L (i:Int)>>=_=_
    rw [hL,zzi _ _ _ hD,obs,← hL]
    show z77 (z01.mk s ⟨L,[]⟩ N P 0 [] e) x.From>>=_=_
    rw [b1,obs]
    try dsimp only
    rw [hL,zzh _ _ _ _ hD]
    show z77 (z01.mk s ⟨D++⟨x.Kind,x.Size,f,0,(x.Tags.length:Int),[]⟩::(s.Chans.drop (i+1)).map ch0,[]⟩ N P 0 [] e3) x.To>>=_=_
    rw [c1,obs]
    try dsimp only
    rw [zzi _ _ _ hD,obs]
    try dsimp only
    rw [zzh _ _ _ _ hD,zzi _ _ _ hD,obs]
    show z14 (z01.mk s ⟨D++⟨x.Kind,x.Size,f,t,(x.Tags.length:Int),[]⟩::(s.Chans.drop (i+1)).map ch0,[]⟩ N P 0 [] e4) (f != t) 9>>=_=_
    rw [d1,obs]
    try dsimp only
    rw [hw];rfl
   ·rw [htk,zg4]
    exact hI.bd ((b2.bd (c2.bd (d2.mp fun _=>(⟨x.Kind,x.Size,f,t,(x.Tags.length:Int),[]⟩:z0a)))).mp fun y=>D++[y]))
  (fun s=>by unfold z79;rw [if_neg (by simp)]) (s0:=(e2,s.Chans.map ch0)) ⟨[],rfl,by simp,by simpa [fX] using Tl.pure _ _⟩
 rw [List.take_length] at q4
 rw [List.drop_length,List.map_nil,List.append_nil] at q3
 refine ⟨y.1,y.2,?_,?_⟩
 ·refine (congrArg (·>>=_) a1).trans ?_
  rw [obs]
  refine (congrArg (·>>=_) h1).trans ?_
  rw [obs]
  refine (congrArg (·>>=_) q1).trans ?_
  rw [obs]
  simp [h3]
 ·rw [q3]
  have:zmd s=(X.must (decide ((s.Procs.length:Int)≥1)&&decide ((s.Procs.length:Int)≤4)) 10).bd fun _=>(mAp (s.Procs.map (·.Name))).bd fun N=>(fX (mCs N) (.ok []) s.Chans).mp fun l=>(N,l):=rfl
  rw [this]
  refine a2.bd (Tl.bd (v:=P) h2 ?_)
  rw [← h3]
  exact q4.mp fun l=>(P,l)
theorem z09t {k:Nat} (h:k≤4):bits_Mul (IntKind.u64.wrap 1) (IntKind.u64.wrap (k:Int))=some (0,(k:Int)):=by
 have:k=0∨k=1∨k=2∨k=3∨k=4:=by omega
 rcases this with h|h|h|h|h <;> subst h <;> rfl
theorem z09u {k:Nat} (h:k≤4):z6z [(-1)] (k:Int)=some (List.replicate k (-1)):=by
 unfold z6z
 rw [if_neg (by simp),show ([(-1:Int)].length:Int)=1 from rfl,z09t h,obs]
 have:k=0∨k=1∨k=2∨k=3∨k=4:=by omega
 rcases this with h|h|h|h|h <;> subst h
 ·rw [show mkN 8 (IntKind.i64.wrap ((0:Int),((0:Nat):Int)).2)=some 0 from rfl]
  exact congrArg (·>>=_) (z4l (body:=z42) (x:=((0:Int),([]:List Int))) (r:=(Sum.inr []:Sum (List Int) (List Int))) rfl)
 ·exact congrArg (·>>=_) (z4l (body:=z42) (x:=((1:Int),([-1]:List Int))) (r:=(Sum.inr [-1]:Sum (List Int) (List Int))) rfl)
 ·exact congrArg (·>>=_) ((z94 (body:=z42) (x:=((1:Int),([-1,0]:List Int))) (y:=(2,[-1,-1])) rfl).trans (z4l (r:=(Sum.inr [-1,-1]:Sum (List Int) (List Int))) rfl))
 ·exact congrArg (·>>=_) ((z94 (body:=z42) (x:=((1:Int),([-1,0,0]:List Int))) (y:=(2,[-1,-1,0])) rfl).trans ((z94 (y:=(3,[-1,-1,-1])) rfl).trans (z4l (r:=(Sum.inr [-1,-1,-1]:Sum (List Int) (List Int))) rfl)))
 ·exact congrArg (·>>=_) ((z94 (body:=z42) (x:=((1:Int),([-1,0,0,0]:List Int))) (y:=(2,[-1,-1,0,0])) rfl).trans ((z94 (y:=(4,[-1,-1,-1,-1])) rfl).trans (z4l (r:=(Sum.inr [-1,-1,-1,-1]:Sum (List Int) (List Int))) rfl)))
def gro (R:List (List Int)) (top:Int) (k:Nat):List (List Int):=R++List.replicate ((top+1).toNat - R.length) (List.replicate k (-1))
theorem zv3 {k:Nat} (hk:k≤4) {top:Int} (h0:0≤top) (h1:top≤100) (R:List (List Int)):zc8 R top (k:Int)=some (gro R top k,gro R top k):=by
 unfold zc8
 have key:∀ (d:Nat) (R:List (List Int)),(top+1).toNat - R.length=d→iter (z9h top (k:Int)) R=some (.inr (gro R top k)):=by
  intro d
  induction d with
  | zero =>
   intro R hd
   rw [z4l (r:=.inr R) (by unfold z9h;rw [if_neg (by simp;omega)])]
   simp [gro,hd]
  | succ d ih =>
   intro R hd
   rw [z94 (y:=R++[List.replicate k (-1)]) (by
    unfold z9h
    rw [if_pos (by simp;omega),z09u hk,obs,z7v (by simp;omega)];rfl),ih _ (by simp;omega)]
   simp only [gro,List.append_assoc,List.length_append,List.length_cons,List.length_nil,Nat.zero_add]
   rw [hd,show (top+1).toNat - (R.length+1)=d by omega]
   rfl
 rw [key _ R rfl];rfl
theorem zzj (R:List (List Int)) (top:Int) (k:Nat):(gro R top k).length=max R.length (top+1).toNat:=by simp [gro];omega
theorem zth {R:List (List Int)} {top:Int} {k:Nat} (h:∀ r∈R,r.length=k):∀ r∈gro R top k,r.length=k:=by
 intro r hr
 rcases List.mem_append.1 hr with h1|h1
 ·exact h r h1
 ·have:=List.eq_of_mem_replicate h1;subst this;simp
def mMv (tags:List ByteArray) (R:List (List Int)) (x:z5d):X (List (List Int)):=(pl tags x.Tag).bd fun t=>(X.must (decide (x.From<8)&&decide (x.To<8)) 11).bd fun _ =>
 let R':=gro R (max x.From x.To) tags.length
 (X.must ((R'.getD x.From.toNat []).getD t.toNat 0==-1) 7).mp fun _=>R'.set x.From.toNat ((R'.getD x.From.toNat []).set t.toNat x.To)
structure Rw (c:z0a) (k:Nat):Prop where
 b:k≤4
 t:c.Tags=(k:Int)
 r:∀ r∈c.Rule,r.length=k
 n:c.Rule.length≤8
def wr (c:z0a) (R:List (List Int)):z0a:=⟨c.Kind,c.Size,c.From,c.To,c.Tags,R⟩
theorem zzk {α:Type} {l:List α} {i:Nat} {x:α} (h:i<l.length):idx (l.set i x) (i:Int)=some x:=by
 rw [zb4 (by simpa using h)];simp
theorem zzl {α:Type} (l:List α) (i:Nat) (x:α):seti l (i:Int) x=l.set i x:=by unfold seti;simp
theorem z01q {α:Type} {l:List α} {i:Int} (h0:0≤i) (h:i.toNat<l.length):idx l i=some l[i.toNat]:=by
 unfold idx;rw [if_pos h0];simp [h]
theorem z083 (m:z01) (i:Nat) (x:z5d) (a:z29) (c:z0a) (ha:m.f_s.Chans[i]?=some a) (hc:m.f_p.Chans[i]?=some c) (hr:Rw c a.Tags.length) (h1:0≤x.From) (h2:0≤x.To) :
  ∃ e R,z8k m (i:Int) x=some (z01.mk m.f_s ⟨m.f_p.Chans.set i (wr c R),m.f_p.Procs⟩ m.f_chans m.f_procs m.f_proc m.f_vars e)∧Tl m.f_e (mMv a.Tags c.Rule x) e R∧Rw (wr c R) a.Tags.length:=by
 obtain ⟨hi,ha⟩:=List.getElem?_eq_some_iff.1 ha
 obtain ⟨hj,hc⟩:=List.getElem?_eq_some_iff.1 hc
 have hk:=hr.b
 unfold z8k
 rw [zb4 hi,ha,obs]
 obtain ⟨e1,t,a1,a2,a3⟩:=zea m (l:=a.Tags) x.Tag (by omega)
 rw [a1,obs]
 obtain ⟨e2,b1,b2⟩:=if2 (a:=decide (x.From<8)) (m:=st m e1) (k:=11) (by decide) (z01p _ (decide (x.To<8)) (by decide))
 have hbb:∀ {β:Type} (f:Int→Option β),((if decide (x.From<8)=true then (z14 (z01.mk m.f_s m.f_p m.f_chans m.f_procs m.f_proc m.f_vars (st m e1,t).1.f_e) (decide (x.To<8)) 11>>=fun v3=>some v3.f_e) else (z14 (z01.mk m.f_s m.f_p m.f_chans m.f_procs m.f_proc m.f_vars (st m e1,t).1.f_e) false 11>>=fun v4=>some v4.f_e):Option Int)>>=f)=f e2:=fun f=>by
  refine (congrArg (·>>=f) b1).trans ?_
  rfl
 rw [hbb]
 by_cases he:e2=0
 ·have hm:m.f_e=0:=by
   by_cases h:m.f_e=0
   ·exact h
   ·have:=a2.1 h
    have:=b2.1 (show (st m e1).f_e≠0 from by rw [st_e];omega)
    rw [st_e] at this;omega
  have he1:e1=0:=by
   by_cases h:e1=0
   ·exact h
   ·have:=b2.1 (show (st m e1).f_e≠0 from h);rw [st_e] at this;omega
  subst he;subst he1
  have a4:=a2.2 hm
  have b4:=b2.2 rfl
  have hlt8:x.From<8∧x.To<8:=by
   unfold X.must at b4
   by_cases hb:(decide (x.From<8)&&decide (x.To<8))=true
   ·simpa using hb
   ·rw [if_neg hb] at b4;exact absurd b4.1 (by decide)
  have htl:t.toNat<a.Tags.length:=by
   unfold pl at a4
   cases hf:fi x.Tag a.Tags with
   | none=>rw [hf] at a4;exact absurd a4.1.symm (by decide)
   | some j=>rw [hf] at a4;have:=zza hf;omega
  rw [if_neg (by decide),zb4 hj,hc,obs,hr.t,zv3 hk (by omega) (by omega),obs]
  let R':=gro c.Rule (max x.From x.To) a.Tags.length
  have hR':=zzj c.Rule (max x.From x.To) a.Tags.length
  have hfl:x.From.toNat<R'.length:=by show _<(gro _ _ _).length;omega
  have hrow:(R'[x.From.toNat]).length=a.Tags.length:=zth hr.r _ (List.getElem_mem hfl)
  have htr:t.toNat<(R'[x.From.toNat]).length:=by omega
  dsimp only
  simp only [zzl]
  rw [zzk hj,obs]
  dsimp only
  rw [z01q h1 hfl,obs,z01q a3 htr,obs]
  have hs0:seti R' x.From R'[x.From.toNat]=R':=by unfold seti;simp
  obtain ⟨e3,c1,c2⟩:=zbg (z01.mk m.f_s ⟨m.f_p.Chans.set i (wr c R'),m.f_p.Procs⟩ m.f_chans m.f_procs m.f_proc m.f_vars 0) (R'[x.From.toNat][t.toNat]==-1) 7 (by decide)
  have hcv:∀ {β:Type} (f:z01→Option β),(z14 (z01.mk m.f_s ⟨(m.f_p.Chans.set i (z0a.mk c.Kind c.Size c.From c.To (a.Tags.length:Int) R')).set i (z0a.mk c.Kind c.Size c.From c.To (a.Tags.length:Int) (seti R' x.From R'[x.From.toNat])),m.f_p.Procs⟩ m.f_chans m.f_procs m.f_proc m.f_vars 0) (R'[x.From.toNat][t.toNat]==-1) 7>>=f)=f (z01.mk m.f_s ⟨m.f_p.Chans.set i (wr c R'),m.f_p.Procs⟩ m.f_chans m.f_procs m.f_proc m.f_vars e3):=fun f=>by
   rw [hs0,List.set_set,← hr.t]
   refine (congrArg (·>>=f) c1).trans ?_
   rfl
  refine ⟨e3,R'.set x.From.toNat (R'[x.From.toNat].set t.toNat x.To),?_,?_,?_⟩
  ·refine (hcv _).trans ?_
   rw [hs0,List.set_set]
   rw [zzk hj,obs]
   dsimp only
   rw [z01q h1 hfl,obs,z01q a3 htr,obs,List.set_set,← hr.t]
   rfl
  ·unfold mMv
   rw [hm]
   have a5:Tl 0 (pl a.Tags x.Tag) 0 t:=by rw [hm] at a2;exact a2
   refine a5.bd (b2.bd ?_)
   have e5:(gro c.Rule (max x.From x.To) a.Tags.length).getD x.From.toNat []=R'[x.From.toNat]:=by
    show R'.getD x.From.toNat []=_
    rw [List.getD_eq_getElem?_getD,List.getElem?_eq_getElem hfl];rfl
   have e6:(R'[x.From.toNat]).getD t.toNat 0=R'[x.From.toNat][t.toNat]:=by
    rw [List.getD_eq_getElem?_getD,List.getElem?_eq_getElem htr];rfl
   show Tl 0 ((X.must (((gro c.Rule (max x.From x.To) a.Tags.length).getD x.From.toNat []).getD t.toNat 0==-1) 7).mp fun _=>(gro c.Rule (max x.From x.To) a.Tags.length).set x.From.toNat (((gro c.Rule (max x.From x.To) a.Tags.length).getD x.From.toNat []).set t.toNat x.To)) e3 _
   rw [e5,e6]
   exact Tl.mp c2 _
  ·refine ⟨hk,hr.t,fun r h=>?_,?_⟩
   ·rcases List.mem_or_eq_of_mem_set h with h|h
    ·exact zth hr.r r h
    ·subst h;rw [List.length_set];exact hrow
   ·show (List.set _ _ _).length≤8
    have:=hr.n
    rw [List.length_set]
    show (gro _ _ _).length≤8
    omega
 ·refine ⟨e2,c.Rule,?_,?_,⟨hr.b,hr.t,hr.r,hr.n⟩⟩
  ·rw [if_pos (by simpa using he)]
   have:m.f_p.Chans.set i (wr c c.Rule)=m.f_p.Chans:=by
    show m.f_p.Chans.set i c=_
    rw [← hc];simp
   rw [this]
  ·unfold mMv
   refine a2.bd (Tl.bd (v:=()) b2 (Tl.off he _ _))
def ba (c:z0a):z0a:=wr c []
structure Iv (S:List z29) (L:List z0a):Prop where
 l:L.length=S.length
 r:∀ (i:Nat) (a:z29) (c:z0a),S[i]?=some a→L[i]?=some c→Rw c a.Tags.length
theorem Iv.set {S:List z29} {L:List z0a} (h:Iv S L) {i:Nat} {a:z29} {c:z0a} (ha:S[i]?=some a) (hr:Rw c a.Tags.length):Iv S (L.set i c):=by
 refine ⟨by simpa using h.l,fun j b d h1 h2=>?_⟩
 by_cases hij:i=j
 ·subst hij
  rw [ha] at h1;injection h1 with h1;subst h1
  rw [List.getElem?_set] at h2
  rw [if_pos rfl] at h2
  split at h2
  ·injection h2 with h2;subst h2;exact hr
  ·cases h2
 ·rw [List.getElem?_set,if_neg hij] at h2
  exact h.r j b d h1 h2
theorem z03a {L:List z0a} {i:Nat} {c:z0a} (hc:L[i]?=some c) (R:List (List Int)):(L.set i (wr c R)).map ba=L.map ba:=by
 obtain ⟨hi,hc⟩:=List.getElem?_eq_some_iff.1 hc
 refine List.ext_getElem (by simp) fun j h1 h2=>?_
 simp only [List.getElem_map,List.getElem_set]
 split
 ·rename_i h;subst h;rw [hc];rfl
 ·rfl
def mRl (N:List ByteArray) (S:List z29) (L:List z0a) (r:z3e):X (List z0a):=(pl N r.Chan).bd fun i=>match L[i.toNat]?,S[i.toNat]? with
 | some c,some a=>(X.must ((c.Rule.length:Int)==0) 7).bd fun _=>(fX (mMv a.Tags) (.ok (gro c.Rule 0 a.Tags.length)) r.Moves).mp fun R=>L.set i.toNat (wr c R)
 | _,_=>.er 8
theorem zzm (m:z01) (r:z3e) (he:m.f_e=0) (hI:Iv m.f_s.Chans m.f_p.Chans) (hN:m.f_chans.length=m.f_p.Chans.length) (hl:m.f_p.Chans.length≤400000000) (hm:r.Moves.length≤400000000) (hmv:∀ x∈r.Moves,0≤x.From∧0≤x.To) :
  ∃ e L,z8l m r=some (z01.mk m.f_s ⟨L,m.f_p.Procs⟩ m.f_chans m.f_procs m.f_proc m.f_vars e)∧Tl 0 (mRl m.f_chans m.f_s.Chans m.f_p.Chans r) e L∧Iv m.f_s.Chans L∧L.map ba=m.f_p.Chans.map ba:=by
 unfold z8l
 obtain ⟨e1,v,a1,a2,a3⟩:=zq1 m r.Chan (by omega)
 rw [a1,obs]
 have a4:=a2.2 he
 cases hf:pl m.f_chans r.Chan with
 | er c =>
  rw [hf] at a4
  rw [if_pos (by simp [st_e,a4])]
  exact ⟨e1,m.f_p.Chans,rfl,by unfold mRl;rw [hf];exact ⟨fun h=>absurd rfl h,fun _=>a4⟩,hI,rfl⟩
 | ok w =>
  rw [hf] at a4
  obtain ⟨rfl,rfl⟩:=a4
  obtain ⟨i,rfl⟩:∃ i:Nat,v=(i:Int):=⟨v.toNat,by omega⟩
  have hi:i<m.f_p.Chans.length:=by
   unfold pl at hf
   cases h:fi r.Chan m.f_chans with
   | none=>rw [h] at hf;cases hf
   | some j=>rw [h] at hf;injection hf with hf;have:=zza h;omega
  have hi2:i<m.f_s.Chans.length:=by rw [← hI.l];exact hi
  have ga:m.f_s.Chans[i]?=some m.f_s.Chans[i]:=List.getElem?_eq_getElem hi2
  have gc:m.f_p.Chans[i]?=some m.f_p.Chans[i]:=List.getElem?_eq_getElem hi
  have hrw:=hI.r i _ _ ga gc
  generalize ha:m.f_s.Chans[i]=a at ga hrw
  generalize hc:m.f_p.Chans[i]=c at gc hrw
  rw [if_neg (by rw [st_e];decide)]
  dsimp only
  rw [zb4 hi,hc,obs]
  have hs:seti m.f_p.Chans (i:Int) c=m.f_p.Chans:=by rw [zzl,← hc];simp
  rw [hs]
  obtain ⟨e2,b1,b2⟩:=zbg (st m 0) ((c.Rule.length:Int)==0) 7 (by decide)
  have hnn:=zzj c.Rule 0 a.Tags.length
  have hn8:=hrw.n
  have hR0:Rw (wr c (gro c.Rule 0 a.Tags.length)) a.Tags.length:=⟨hrw.b,hrw.t,zth hrw.r,by show (gro _ _ _).length≤8;rw [hnn];omega⟩
  obtain ⟨z,q1,R,q2,q3,q4⟩:=lp (body:=z7b m r (st m 0,(i:Int))) (out:=fun s:Int × List z0a=>s) r.Moves (by omega)
   (fun j z=>∃ R,z.2=m.f_p.Chans.set i (wr c R)∧Rw (wr c R) a.Tags.length∧Tl e2 (fX (mMv a.Tags) (.ok (gro c.Rule 0 a.Tags.length)) (r.Moves.take j)) z.1 R)
   (fun j x z h hj hmx htk hd hw hI2=>by
    obtain ⟨e,L⟩:=z
    obtain ⟨R,hL,hR,hT⟩:=hI2
    dsimp only at hL hT
    obtain ⟨e3,R2,c1,c2,c3⟩:=z083 (z01.mk m.f_s ⟨L,m.f_p.Procs⟩ m.f_chans m.f_procs m.f_proc m.f_vars e) i x a (wr c R) ga (by show L[i]?=_;rw [hL,List.getElem?_set,if_pos rfl,if_pos hi]) hR (hmv x hmx).1 (hmv x hmx).2
    refine ⟨(e3,m.f_p.Chans.set i (wr c R2)),?_,R2,rfl,c3,?_⟩
    ·unfold z7b
     rw [if_pos (by simpa using h),hj,obs]
     show z8k (z01.mk m.f_s ⟨L,m.f_p.Procs⟩ m.f_chans m.f_procs m.f_proc m.f_vars e) (i:Int) x>>=_=_
     rw [c1,obs]
     dsimp only
     rw [hw,hL,List.set_set];rfl
    ·rw [htk,zg4]
     exact hT.bd c2)
   (fun s=>by unfold z7b;rw [if_neg (by simp)]) (s0:=(e2,m.f_p.Chans.set i (wr c (gro c.Rule 0 a.Tags.length)))) ⟨_,rfl,hR0,by simpa [fX] using Tl.pure _ _⟩
  rw [List.take_length] at q4
  refine ⟨z.1,z.2,?_,?_,?_,?_⟩
  ·show z14 (st m 0) ((c.Rule.length:Int)==0) 7>>=_=_
   rw [b1,obs]
   rw [zb4 hi,hc,obs,hrw.t,show (((a.Tags.length:Nat):Int))=((a.Tags.length:Nat):Int) from rfl,zv3 hrw.b (by omega) (by omega),obs]
   dsimp only
   rw [zzl,← hrw.t]
   refine (congrArg (·>>=_) q1).trans ?_
   rfl
  ·unfold mRl
   rw [hf]
   show Tl 0 (match m.f_p.Chans[((i:Int)).toNat]?,m.f_s.Chans[((i:Int)).toNat]? with
    | some c,some a=>(X.must ((c.Rule.length:Int)==0) 7).bd fun _=>(fX (mMv a.Tags) (.ok (gro c.Rule 0 a.Tags.length)) r.Moves).mp fun R=>m.f_p.Chans.set ((i:Int)).toNat (wr c R)
    | _,_=>.er 8) _ _
   rw [Int.toNat_natCast,ga,gc,q2]
   exact Tl.bd (v:=()) b2 (q4.mp fun R=>m.f_p.Chans.set i (wr c R))
  ·rw [q2];exact hI.set ga q3
  ·rw [q2];exact z03a gc R
def mBd (k:K) (p:z3k):X (List z0h):=(X.must (decide ((p.Vars.length:Int)≤6)) 10).bd fun _=>(mAp p.Vars).bd fun _=>mL k p.Body
theorem z084 (m:z01) (i:Int) (p:z3k) (hw:Wf m) (hv:p.Vars.length≤400000000) (hb:szL p.Body≤400000000000) (hp:m.f_p.Procs.length≤400000000) :
  ∃ e v,z8m m i p=some (z01.mk m.f_s ⟨m.f_p.Chans,m.f_p.Procs++[⟨(p.Vars.length:Int),v⟩]⟩ m.f_chans m.f_procs i p.Vars e)∧Tl m.f_e (mBd ⟨p.Vars,m.f_chans,m.f_p.Chans,m.f_s.Chans,i⟩ p) e v:=by
 unfold z8m
 obtain ⟨e1,a1,a2⟩:=zbg m (decide ((p.Vars.length:Int)≤6)) 10 (by decide)
 obtain ⟨e2,v2,b1,b2,b3⟩:=zzf (st m e1) p.Vars hv
 obtain ⟨e3,v,c1,c2⟩:=ztg (m:=z01.mk m.f_s m.f_p m.f_chans m.f_procs i p.Vars e2) ⟨by show p.Vars.length≤_;omega,hw.n,hw.p,hw.s,hw.t⟩ (l:=p.Body) hb
 rw [a1,obs]
 refine ⟨e3,v,?_,a2.bd (b2.bd c2)⟩
 show z6f (st m e1) p.Vars>>=_=_
 rw [b1,obs]
 show zax (z01.mk m.f_s m.f_p m.f_chans m.f_procs i p.Vars e2) p.Body>>=_=_
 rw [c1,obs,z7v (by simp;omega),obs]
 rfl
theorem zq2 {β:Type} {g:Nat→β→Wr}:∀ {l:List β} {i:Nat},(flatW g i l).bad=false→∀ x∈l,∃ j,(g j x).bad=false
 | y::r,i,h,x,hx=>by
  simp only [flatW,Wr.bad_app,Bool.or_eq_false_iff] at h
  rcases List.mem_cons.1 hx with rfl|hx
  ·exact ⟨i,h.1⟩
  ·exact zq2 h.2 x hx
theorem zzn {s:z17} (h:(sSys s).bad=false):∀ r∈s.Rules,∀ x∈r.Moves,0≤x.From∧0≤x.To:=by
 intro r hr x hx
 simp only [sSys,Wr.bad_app,Bool.or_eq_false_iff] at h
 obtain ⟨_,h1⟩:=zq2 h.2.1 r hr
 simp only [sR,Wr.bad_app,Bool.or_eq_false_iff] at h1
 obtain ⟨_,h2⟩:=zq2 h1.2.2.2.1 x hx
 simp only [zry,Wr.bad_app,Bool.or_eq_false_iff,wI,zom] at h2
 have a:=h2.1
 have b:=h2.2.2.1
 simp at a b
 omega
theorem zzo {s:z17} (ho:okSys s) (hs:zhd s≤1000000000000):zcj s=some (!(sSys s).bad):=by
 unfold zcj
 rw [z05f ho hs,obs]
 unfold endW
 cases (sSys s).bad with
 | true=>rfl
 | false =>
  simp only [Bool.false_eq_true,if_false]
  split
  ·rfl
  ·split <;> rfl
theorem zx3 {α β:Type} (f:α→β→X α) (c:Int):∀ l:List β,fX f (.er c) l=.er c
 | []=>rfl
 | x::r=>zx3 f c r
theorem zme {α β:Type} (f:α→β→X α) (a:α) (x:β) (r:List β):fX f (.ok a) (x::r)=fX f (f a x) r:=rfl
theorem z03b {α β:Type} {f:α→β→X α}:∀ {l:List β} {a b:α},fX f (.ok a) l=.ok b→∀ x∈l,∃ u v,f u x=.ok v
 | y::r,a,b,h,x,hx=>by
  rw [zme] at h
  cases hf:f a y with
  | er c=>rw [hf,zx3] at h;cases h
  | ok v =>
   rw [hf] at h
   rcases List.mem_cons.1 hx with rfl|hx
   ·exact ⟨a,v,hf⟩
   ·exact z03b h x hx
theorem zcx {α β:Type} {x:X α} {f:α→X β} {b:β} (h:x.bd f=.ok b):∃ a,x=.ok a∧f a=.ok b:=by
 cases x with
 | ok a=>exact ⟨a,rfl,h⟩
 | er c=>cases h
theorem zl9 {α β:Type} {x:X α} {f:α→β} {b:β} (h:x.mp f=.ok b):∃ a,x=.ok a∧f a=b:=by
 obtain ⟨a,h1,h2⟩:=zcx h
 exact ⟨a,h1,by injection h2⟩
theorem zq3 {b:Bool} {c:Int} {u:Unit} (h:X.must b c=.ok u):b=true:=by
 cases b with
 | true=>rfl
 | false=>cases h
theorem zq4 {β γ:Type} {f:β→X γ}:∀ {l:List β} {M:List γ},mapX f l=.ok M→M.length=l.length∧∀ (i:Nat) x y,l[i]?=some x→M[i]?=some y→f x=.ok y
 | [],M,h=>by injection h with h;subst h;exact ⟨rfl,fun i x y h=>by simp at h⟩
 | a::r,M,h=>by
  simp only [mapX] at h
  obtain ⟨v,h1,h2⟩:=zcx h
  obtain ⟨M2,h3,rfl⟩:=zl9 h2
  obtain ⟨h4,h5⟩:=zq4 h3
  refine ⟨by simp [h4],fun i x y hx hy=>?_⟩
  cases i with
  | zero=>simp at hx hy;subst hx;subst hy;exact h1
  | succ i=>simp at hx hy;exact h5 i x y hx hy
theorem z09v {α β γ:Type} (x:X α) (f:α→β) (g:β→γ):(x.mp f).mp g=x.mp fun a=>g (f a):=by cases x <;> rfl
theorem z03c {β γ:Type} (g:β→X γ):∀ (l:List β) (acc:List γ),fX (fun acc c=>(g c).mp fun x=>acc++[x]) (.ok acc) l=(mapX g l).mp (acc++·)
 | [],acc=>by simp [fX,mapX,X.mp,X.bd]
 | x::r,acc=>by
  rw [zme]
  simp only [mapX]
  cases hg:g x with
  | er c=>exact zx3 _ c r
  | ok v =>
   refine (z03c g r (acc++[v])).trans ?_
   show _=((mapX g r).mp (v::·)).mp _
   rw [z09v]
   simp
theorem z05g {l:List z29} {N:List ByteArray} (h:zmw l=.ok N):l.length≤4∧∀ c∈l,c.Tags.length≤4:=by
 unfold zmw at h
 obtain ⟨u,h1,h2⟩:=zcx h
 refine ⟨by have:=zq3 h1;simp at this;omega,fun c hc=>?_⟩
 obtain ⟨a,v,h3⟩:=z03b h2 c hc
 unfold mDe at h3
 obtain ⟨_,_,h4⟩:=zcx h3
 obtain ⟨_,h5,_⟩:=zcx h4
 have:=zq3 h5
 simp at this;omega
theorem zzp {s:z17} {q:List ByteArray × List z0a} (h:zmd s=.ok q):s.Procs.length≤4∧1≤s.Procs.length∧mapX (ch1 q.1) s.Chans=.ok q.2∧mAp (s.Procs.map (·.Name))=.ok q.1:=by
 unfold zmd at h
 obtain ⟨u,h1,h2⟩:=zcx h
 obtain ⟨N,h3,h4⟩:=zcx h2
 obtain ⟨L,h5,rfl⟩:=zl9 h4
 have hm:=zq3 h1
 simp at hm
 refine ⟨by omega,by omega,?_,h3⟩
 have h6:fX (mCs N) (.ok []) s.Chans=(mapX (ch1 N) s.Chans).mp ([]++·):=z03c (ch1 N) s.Chans []
 rw [h6] at h5
 obtain ⟨M,h7,h8⟩:=zl9 h5
 rw [List.nil_append] at h8
 subst h8;exact h7
theorem zzq {s:z17} {N:List ByteArray} {q:List ByteArray × List z0a} (hd:zmw s.Chans=.ok N) (h:zmd s=.ok q):Iv s.Chans q.2∧q.2.map ba=q.2:=by
 obtain ⟨_,_,h1,_⟩:=zzp h
 obtain ⟨h2,h3⟩:=zq4 h1
 have key:∀ (i:Nat) a c,s.Chans[i]?=some a→q.2[i]?=some c→c.Tags=(a.Tags.length:Int)∧c.Rule=[]:=fun i a c ha hc=>by
  have h4:=h3 i a c ha hc
  unfold ch1 at h4
  obtain ⟨f,_,h5⟩:=zcx h4
  obtain ⟨t,_,h6⟩:=zcx h5
  obtain ⟨_,_,rfl⟩:=zl9 h6
  exact ⟨rfl,rfl⟩
 refine ⟨⟨h2,fun i a c ha hc=>?_⟩,?_⟩
 ·obtain ⟨k1,k2⟩:=key i a c ha hc
  exact ⟨(z05g hd).2 a (List.mem_of_getElem? ha),k1,(by rw [k2];intro r hr;cases hr),by rw [k2];simp⟩
 ·refine List.ext_getElem (by simp) fun i h4 h5=>?_
  have h6:i<s.Chans.length:=by rw [← h2];exact h5
  have k:=(key i s.Chans[i] q.2[i] (List.getElem?_eq_getElem h6) (List.getElem?_eq_getElem h5)).2
  simp only [List.getElem_map,ba,wr]
  rw [← k]
def mPr (N:List ByteArray) (L:List z0a) (S:List z29) (ps:List z6r) (p:z3k):X (List z6r):=(mBd ⟨p.Vars,N,L,S,(ps.length:Int)⟩ p).mp fun v=>ps++[⟨(p.Vars.length:Int),v⟩]
def mSys (s:z17):X z18:=(zmw s.Chans).bd fun N=>(zmd s).bd fun q=>(fX (mRl N s.Chans) (.ok q.2) s.Rules).bd fun L=>(fX (mPr N L s.Chans) (.ok []) s.Procs).mp fun ps=>⟨L,ps⟩
def rC (x:X z18):z18 × Int:=match x with
 | .ok p=>(p,0)
 | .er c=>(⟨[],[]⟩,c)
theorem z05h {s:z17} (ho:okSys s) (hs:zhd s≤400000000) (hb:(sSys s).bad=false):∃ e v,z91 s=some (if (e != 0)=true then (⟨[],[]⟩,e) else (v,0))∧Tl 0 (mSys s) e v:=by
 have b1:s.Chans.length≤400000000:=by
  have:s.Chans.length≤sumN szCh s.Chans:=by
   have:=za2 (β:=z29) 1 s.Chans
   have h2:∀ l:List z29,sumN (fun _=>1) l≤sumN szCh l:=fun l=>by
    induction l with
    | nil=>simp [sumN]
    | cons x r ih=>simp only [sumN,szCh];omega
   have:=h2 s.Chans;omega
  unfold zhd at hs;omega
 have b2:s.Procs.length≤400000000:=by
  have:s.Procs.length≤sumN szP s.Procs:=by
   have:=za2 (β:=z3k) 1 s.Procs
   have h2:∀ l:List z3k,sumN (fun _=>1) l≤sumN szP l:=fun l=>by
    induction l with
    | nil=>simp [sumN]
    | cons x r ih=>simp only [sumN,szP];omega
   have:=h2 s.Procs;omega
  unfold zhd at hs;omega
 have b3:s.Rules.length≤400000000:=by
  have:s.Rules.length≤sumN szR s.Rules:=by
   have:=za2 (β:=z3e) 1 s.Rules
   have h2:∀ l:List z3e,sumN (fun _=>1) l≤sumN szR l:=fun l=>by
    induction l with
    | nil=>simp [sumN]
    | cons x r ih=>simp only [sumN,szR];omega
   have:=h2 s.Rules;omega
  unfold zhd at hs;omega
 have t1:∀ c∈s.Chans,c.Tags.length≤400000000:=fun c hc=>by have:=zdf (c:=szCh) hc;unfold szCh at this;unfold zhd at hs;unfold szCh at hs;omega
 have t2:∀ c∈s.Rules,c.Moves.length≤400000000:=fun c hc=>by have:=zdf (c:=szR) hc;unfold szR at this;unfold zhd at hs;unfold szR at hs;omega
 have t3:∀ c∈s.Procs,c.Vars.length≤400000000∧szL c.Body≤400000000:=fun c hc=>by have:=zdf (c:=szP) hc;unfold szP at this;unfold zhd at hs;unfold szP at hs;omega
 have all:∃ e v,Tl 0 (mSys s) e v∧z91 s=some (if (e != 0)=true then (⟨[],[]⟩,e) else (v,0)):=by
  unfold z91
  rw [zzo ho (by omega),obs,hb,if_neg (by decide)]
  obtain ⟨e1,g1,g2⟩:=zzg s b1 t1
  rw [g1,obs]
  obtain ⟨e2,L0,k1,k2⟩:=z082 s (s.Chans.map (·.Name)) e1 b1 b2
  have hbase:Tl 0 ((zmw s.Chans).bd fun _=>zmd s) e2 (s.Procs.map (·.Name),L0):=g2.bd k2
  have hiv0:e2=0→Iv s.Chans L0∧(∃ q,(zmw s.Chans)=.ok (s.Chans.map (·.Name))∧zmd s=.ok q∧q=(s.Procs.map (·.Name),L0)):=fun h0=>by
   have g3:=g2.2 rfl
   have k3:=hbase.2 rfl
   cases hd:zmw s.Chans with
   | er c=>rw [hd] at g3 k3;exact absurd (by have:=k3.1;omega) k3.2
   | ok N =>
    rw [hd] at g3 k3
    rw [zrv] at k3
    cases hE:zmd s with
    | er c=>rw [hE] at k3;exact absurd (by have:=k3.1;omega) k3.2
    | ok q =>
     rw [hE] at k3
     have:=zzq hd hE
     rw [← k3.2] at this
     exact ⟨this.1,q,by rw [← g3.2],rfl,k3.2.symm⟩
  obtain ⟨z,q1,q2,q3⟩:=lp (body:=z8z s (z01.mk s ⟨s.Chans.map ch0,[]⟩ (s.Chans.map (·.Name)) [] 0 [] e1) (z01.mk s ⟨L0,[]⟩ (s.Chans.map (·.Name)) (s.Procs.map (·.Name)) 0 [] e2)) (out:=fun s:Int × List z0a=>s) s.Rules (by omega)
   (fun i z=>(z.1=0→Iv s.Chans z.2)∧Tl e2 (fX (mRl (s.Chans.map (·.Name)) s.Chans) (.ok L0) (s.Rules.take i)) z.1 z.2)
   (fun i x z h hi hm htk hd hw hI=>by
    obtain ⟨e,L⟩:=z
    obtain ⟨hI,hT⟩:=hI
    dsimp only at hI hT
    by_cases he:e=0
    ·subst he
     have hi0:=hI rfl
     obtain ⟨e3,L3,c1,c2,c3,_⟩:=zzm (z01.mk s ⟨L,[]⟩ (s.Chans.map (·.Name)) (s.Procs.map (·.Name)) 0 [] 0) x rfl hi0 (by show (s.Chans.map (·.Name)).length=L.length;rw [hi0.l];simp) (by show L.length≤_;rw [hi0.l];exact b1) (t2 x hm) (zzn hb x hm)
     refine ⟨(e3,L3),?_,fun _=>c3,?_⟩
     ·unfold z8z
      rw [if_pos (by simpa using h)]
      show ((idx s.Rules (i:Int)>>=_)>>=_)=_
      rw [hi,obs,if_pos (by rfl)]
      show ((z8l (z01.mk s ⟨L,[]⟩ (s.Chans.map (·.Name)) (s.Procs.map (·.Name)) 0 [] 0) x>>=_)>>=_)=_
      rw [c1,obs,obs]
      dsimp only
      rw [hw]
     ·rw [htk,zg4]
      exact hT.bd c2
    ·refine ⟨(e,L),?_,hI,?_⟩
     ·unfold z8z
      rw [if_pos (by simpa using h)]
      show ((idx s.Rules (i:Int)>>=_)>>=_)=_
      rw [hi,obs,if_neg (by simpa using he),obs]
      dsimp only
      rw [hw]
     ·rw [htk,zg4]
      exact hT.bd (Tl.off he _ _))
   (fun s=>by unfold z8z;rw [if_neg (by simp)]) (s0:=(e2,L0)) ⟨fun h=>(hiv0 h).1,by simpa [fX] using Tl.pure _ _⟩
  rw [List.take_length] at q3
  obtain ⟨e4,L⟩:=z
  dsimp only at q2 q3
  obtain ⟨y,r1,r2,r3⟩:=lp (body:=z90 s (e4,L) (z01.mk s ⟨s.Chans.map ch0,[]⟩ (s.Chans.map (·.Name)) [] 0 [] e1) (z01.mk s ⟨L0,[]⟩ (s.Chans.map (·.Name)) (s.Procs.map (·.Name)) 0 [] e2)) (out:=fun s:Int × List ByteArray × Int × List z6r=>s) s.Procs (by omega)
   (fun i z=>(z.2.1.length≤400000000∧(z.2.2.1=0→e4=0∧z.2.2.2.length=i))∧Tl e4 (fX (mPr (s.Chans.map (·.Name)) L s.Chans) (.ok []) (s.Procs.take i)) z.2.2.1 z.2.2.2)
   (fun i x z h hi hm htk hd hw hI=>by
    obtain ⟨pr,vs,e,P⟩:=z
    obtain ⟨⟨hV,hI⟩,hT⟩:=hI
    dsimp only at hV hI hT
    by_cases he:e=0
    ·subst he
     obtain ⟨he4,hPl⟩:=hI rfl
     have hi0:=q2 he4
     obtain ⟨e3,v,c1,c2⟩:=z084 (z01.mk s ⟨L,P⟩ (s.Chans.map (·.Name)) (s.Procs.map (·.Name)) pr vs 0) (i:Int) x ⟨by show vs.length≤_;omega,by show (s.Chans.map (·.Name)).length≤_;simp;omega,by show L.length=(s.Chans.map (·.Name)).length;rw [hi0.l];simp,by show s.Chans.length=(s.Chans.map (·.Name)).length;simp,fun c hc=>by have:=t1 c hc;omega⟩ (t3 x hm).1 (by have:=(t3 x hm).2;omega) (by show P.length≤_;omega)
     refine ⟨((i:Int),x.Vars,e3,P++[⟨(x.Vars.length:Int),v⟩]),?_,⟨(t3 x hm).1,fun h=>⟨he4,by simp [hPl]⟩⟩,?_⟩
     ·unfold z90
      rw [if_pos (by simpa using h)]
      show ((idx s.Procs (i:Int)>>=_)>>=_)=_
      rw [hi,obs,if_pos (by rfl)]
      show ((z8m (z01.mk s ⟨L,P⟩ (s.Chans.map (·.Name)) (s.Procs.map (·.Name)) pr vs 0) (i:Int) x>>=_)>>=_)=_
      rw [c1,obs,obs]
      dsimp only
      rw [hw]
     ·rw [htk,zg4]
      refine hT.bd (Tl.mp ?_ fun v=>P++[⟨(x.Vars.length:Int),v⟩])
      rw [hPl];exact c2
    ·refine ⟨(pr,vs,e,P),?_,⟨hV,fun h=>absurd h he⟩,?_⟩
     ·unfold z90
      rw [if_pos (by simpa using h)]
      show ((idx s.Procs (i:Int)>>=_)>>=_)=_
      rw [hi,obs,if_neg (by simpa using he),obs]
      dsimp only
      rw [hw]
     ·rw [htk,zg4]
      exact hT.bd (Tl.off he _ _))
   (fun s=>by unfold z90;rw [if_neg (by simp)]) (s0:=(0,[],e4,[])) ⟨⟨by simp,fun h=>⟨h,rfl⟩⟩,by simpa [fX] using Tl.pure _ _⟩
  rw [List.take_length] at r3
  refine ⟨y.2.2.1,⟨L,y.2.2.2⟩,?_,?_⟩
  ·have e0:mSys s=((zmw s.Chans).bd fun N=>(zmd s).bd fun q=>(fX (mRl N s.Chans) (.ok q.2) s.Rules).bd fun L=>(fX (mPr N L s.Chans) (.ok []) s.Procs).mp fun ps=>⟨L,ps⟩):=rfl
   rw [e0]
   exact g2.bd (k2.bd (q3.bd (r3.mp fun ps=>(⟨L,ps⟩:z18))))
  refine (congrArg (·>>=_) k1).trans ?_
  rw [obs]
  refine (congrArg (·>>=_) q1).trans ?_
  rw [obs]
  dsimp only [Sum.elim]
  refine (congrArg (·>>=_) r1).trans ?_
  rw [obs]
  dsimp only [Sum.elim]
  by_cases hy:y.2.2.1=0
  ·rw [if_neg (by simpa using hy),if_neg (by simpa using hy)]
  ·rw [if_pos (by simpa using hy),if_pos (by simpa using hy)]
 obtain ⟨e,v,h1,h2⟩:=all
 exact ⟨e,v,h2,h1⟩
theorem zzr {s:z17} (ho:okSys s) (hs:zhd s≤400000000):z91 s=some (if (sSys s).bad=true then (⟨[],[]⟩,5) else rC (mSys s)):=by
 cases hb:(sSys s).bad with
 | true=>unfold z91;rw [zzo ho (by omega),obs,hb];rfl
 | false =>
  obtain ⟨e,v,h1,h2⟩:=z05h ho hs hb
  rw [h1,if_neg (show ¬ (false=true) by decide)]
  have:=h2.2 rfl
  cases hS:mSys s with
  | ok p =>
   rw [hS] at this
   rw [if_neg (by rw [this.1];decide),this.2];rfl
  | er c =>
   rw [hS] at this
   rw [if_pos (by rw [this.1];simpa using this.2),this.1];rfl
abbrev cB:ByteArray:=ByteArray.mk #[99]
abbrev pB:ByteArray:=ByteArray.mk #[112]
abbrev qB:ByteArray:=ByteArray.mk #[113]
abbrev aB:ByteArray:=ByteArray.mk #[97]
abbrev oB:ByteArray:=ByteArray.mk #[]
def z05i:z63:=⟨[⟨cB,0,1,pB,qB,[aB]⟩],[],[⟨pB,[],[.mk 4 cB aB ⟨1,1,oB,[]⟩ ⟨0,⟨0,0,oB,[]⟩,⟨0,0,oB,[]⟩⟩ [] [] []]⟩,⟨qB,[],[]⟩]⟩
def ckS:z17:=⟨[⟨cB,0,1,pB,qB,[aB]⟩],[],[⟨pB,[],[.mk 4 cB aB ⟨1,1,oB,[]⟩ ⟨0,⟨0,0,oB,[]⟩,⟨0,0,oB,[]⟩⟩ [] [] []]⟩,⟨qB,[],[]⟩]⟩
theorem z09w:cSys z05i=ckS:=by simp [z05i,ckS,cSys,cCh,cPr,cL,cS,cE,cEs,cC,cA]
abbrev ckT:ByteArray:=(ByteArray.mk #[99,104,97,110,32,99,32,98,108,111,99,107,32,49,32,102,114,111,109,32,112,32,116,111,32,113,32,123,32,97,32,125,32,59,32,112,114,111,99,32,112,32,123,32,115,101,110,100,32,99,32,46,32,97,32,40,32,49,32,41,32,59,32,125,32,112,114,111,99,32,113,32,123,32,125])
theorem ck_g:Par.gF ckT=(z05i,0,0):=by kernel_rfl
theorem ck_p:zak ckT=some (ckS,0,0):=by
 rw [Par.parse_f (by decide),Par.gF_eq,ck_g,z09w]
theorem z09x:okSys ckS:=by
 have z0:oB.size≤4194304:=by decide
 have z1:pB.size≤4194304:=by decide
 have z2:qB.size≤4194304:=by decide
 have z3:aB.size≤4194304:=by decide
 have z4:cB.size≤4194304:=by decide
 simp only [ckS,Wri.okSys,Wri.okCh,Wri.okP,Wri.okL,Wri.okS,Wri.okE,Wri.okEs,Wri.okC,Wri.okA,Wri.in64,List.map_nil,List.map_cons,List.mem_cons,List.not_mem_nil,or_false,forall_eq_or_imp,forall_eq,z0,z1,z2,z3,z4]
 simp
theorem z09y:zhd ckS≤100:=by
 simp [ckS,zhd,sumN,szCh,szP,szL,szS,szE,szEs,szC,szA]
theorem z085:(sSys ckS).bad=false:=by
 have h1:=z9v (b:=112) (by decide)
 have h2:=z9v (b:=113) (by decide)
 have h3:=z9v (b:=97) (by decide)
 have h4:=z9v (b:=99) (by decide)
 simp [ckS,Wri.sSys,Wri.flatW,Wri.sCh,Wri.wTag,Wri.sP,Wri.sL,Wri.sS,Wri.sE,Wri.inP,Wri.wLeaf,Wri.wW,Wri.wN,Wri.wI,Wri.wM,Wri.wD,Wr.nil,Wri.sumK,Wri.pairK,Wri.signW,Wri.kindOk,h1,h2,h3,h4,z09z,zom]
abbrev cs1:z0a:=⟨0,1,0,1,1,[]⟩
abbrev zp6:z0h:=.mk 4 0 0 0 ⟨1,1,0,[]⟩ ⟨0,⟨0,0,0,[]⟩,⟨0,0,0,[]⟩⟩ [] [] []
abbrev ckQ:z18:=⟨[cs1],[⟨0,[zp6]⟩,⟨0,[]⟩]⟩
theorem q_p:(qB.toList==pB.toList)=false:=by rw [Go.ByteArray.toList_eq,Go.ByteArray.toList_eq];rfl
theorem p_q:(pB.toList==qB.toList)=false:=by rw [Go.ByteArray.toList_eq,Go.ByteArray.toList_eq];rfl
theorem ck_m:mSys ckS=.ok ckQ:=by
 simp [mSys,ckS,zmw,zmd,X.must,X.bd,X.mp,fX,mDe,mAp,mAd,fi,mCs,ch1,pl,mPr,mBd,mL,mS,mCh,mE,mEs,q_p,p_q]
theorem ck_f:z91 ckS=some (ckQ,0):=by
 rw [zzr z09x (by have:=z09y;omega),z085,if_neg (by decide),ck_m];rfl
abbrev lk (p:Int):z1q:=⟨ckQ,p,0⟩
theorem z05j:zd7 ⟨1,1,0,[]⟩ 0=some true:=by
 refine Sn.unf (h:=1) fun n=>?_
 cases n with
 | zero=>exact .inr ⟨rfl,by omega⟩
 | succ n =>
  refine .inl ?_
  simp only [z92]
  show (iter (ze9 (z92 n) ⟨1,1,0,[]⟩ 0) 0>>=_)=_
  rw [z4l (r:=.inr ()) (by rfl)]
  rfl
theorem z05k (L:z1q):z7t L []=some true:=by
 refine Sn.unf (h:=1) fun n=>?_
 cases n with
 | zero=>exact .inr ⟨rfl,by omega⟩
 | succ n =>
  refine .inl ?_
  simp only [z2c]
  rw [z4l (r:=.inr ()) (by rfl)]
  rfl
theorem z086:z7t (lk 0) [zp6]=some true:=by
 refine Sn.unf (h:=2) fun n=>?_
 match n with
 | 0=>exact .inr ⟨rfl,by omega⟩
 | 1 =>
  refine .inr ⟨?_,by omega⟩
  simp only [z2c]
  rw [zce]
  rfl
 | n+2 =>
  refine .inl ?_
  simp only [z2c]
  rw [z94 (y:=1) (by
   unfold z8u
   rw [if_pos (by rfl),show idx [zp6] (0:Int)=some zp6 from rfl,obs]
   rw [show z3r (n+1) (lk 0) zp6=some true by
    simp only [z3r]
    show (((zd7 ⟨1,1,0,[]⟩ 0>>=fun v14=>some v14)>>=fun j7=>some j7):Option Bool)=_
    rw [z05j];rfl]
   rfl)]
  rw [z4l (r:=.inr ()) (by rfl)]
  rfl
theorem z01r:zd6 cs1=some true:=by
 unfold zd6
 rw [z4l (r:=.inr 0) (by rfl)];rfl
theorem zx4:zb1 cs1 2=some true:=by
 unfold zb1
 show (((zd6 cs1>>=fun v6=>some v6)>>=fun j2=>some j2):Option Bool)=_
 rw [z01r];rfl
theorem z01s:z9t ckQ=some true:=by
 unfold z9t
 show (iter (zbe ckQ) 0>>=_)=_
 rw [z94 (y:=1) (by
  unfold zbe
  rw [if_pos (by rfl)]
  show (zb1 cs1 2>>=_)=_
  rw [zx4];rfl),z4l (r:=.inr ()) (by rfl)]
 show (iter (za1 ckQ) 0>>=_)=_
 rw [z94 (y:=1) (by
  unfold za1
  rw [if_pos (by rfl)]
  show (((z7t (lk 0) [zp6]>>=fun v6=>some (!v6)):Option Bool)>>=_)=_
  rw [z086];rfl),z94 (y:=2) (by
  unfold za1
  rw [if_pos (by rfl)]
  show (((z7t (lk 1) []>>=fun v6=>some (!v6)):Option Bool)>>=_)=_
  rw [z05k];rfl),z4l (r:=.inr ()) (by rfl)]
 rfl
theorem z01t:z9t ⟨[],[]⟩=some false:=rfl
theorem z01u:zgj=some true:=by
 unfold zgj
 show (zak ckT>>=_)=_
 rw [ck_p,obs,ck_f,obs]
 show (((z9t ckQ>>=fun v5=>if v5=true then (z9t ⟨[],[]⟩>>=fun v6=>some (!v6)) else some false):Option Bool)>>=fun j1=>some j1)=_
 rw [z01s,obs,if_pos rfl,z01t];rfl
theorem z03d {α β:Type} {f:α→β→X α} (P:α→Prop) (hf:∀ a x b,f a x=.ok b→P a→P b):∀ {l:List β} {a b:α},fX f (.ok a) l=.ok b→P a→P b
 | [],a,b,h,hp=>by injection h with h;subst h;exact hp
 | x::r,a,b,h,hp=>by
  rw [zme] at h
  cases he:f a x with
  | er c=>rw [he,zx3] at h;cases h
  | ok v=>rw [he] at h;exact z03d P hf h (hf a x v he hp)
theorem z0a0 {N:List ByteArray} {S:List z29} {L M:List z0a} {r:z3e} (h:mRl N S L r=.ok M):M.map ba=L.map ba:=by
 unfold mRl at h
 obtain ⟨i,_,h⟩:=zcx h
 split at h
 ·rename_i c a hc ha
  obtain ⟨_,_,h⟩:=zcx h
  obtain ⟨R,_,rfl⟩:=zl9 h
  exact z03a hc R
 ·cases h
theorem z03e {N:List ByteArray} {L:List z0a} {S:List z29}:∀ {l:List z3k} {acc ps:List z6r},fX (mPr N L S) (.ok acc) l=.ok ps→ps.map (fun q=>(q.Vars,q.Body.length))=acc.map (fun q=>(q.Vars,q.Body.length))++l.map (fun p=>((p.Vars.length:Int),p.Body.length))
 | [],acc,ps,h=>by injection h with h;subst h;simp
 | p::r,acc,ps,h=>by
  rw [zme] at h
  cases he:mPr N L S acc p with
  | er c=>rw [he,zx3] at h;cases h
  | ok v =>
   rw [he] at h
   have h2:=z03e h
   unfold mPr at he
   obtain ⟨b,h3,rfl⟩:=zl9 he
   unfold mBd at h3
   obtain ⟨_,_,h3⟩:=zcx h3
   obtain ⟨_,_,h3⟩:=zcx h3
   rw [zze] at h3
   have h4:=(zq4 h3).1
   rw [h2];simp [h4]
theorem kept {s:z17} {p:z18} (h:mSys s=.ok p):p.Procs.map (fun q=>(q.Vars,q.Body.length))=s.Procs.map (fun p=>((p.Vars.length:Int),p.Body.length))∧p.Chans.length=s.Chans.length ∧
  ∀ (i:Nat) a c,s.Chans[i]?=some a→p.Chans[i]?=some c→c.Kind=a.Kind∧c.Size=a.Size∧c.Tags=(a.Tags.length:Int)∧pl (s.Procs.map (·.Name)) a.From=.ok c.From∧pl (s.Procs.map (·.Name)) a.To=.ok c.To:=by
 unfold mSys at h
 obtain ⟨N,h1,h⟩:=zcx h
 obtain ⟨q,h2,h⟩:=zcx h
 obtain ⟨L,h3,h⟩:=zcx h
 obtain ⟨ps,h4,rfl⟩:=zl9 h
 obtain ⟨hiv,hba⟩:=zzq h1 h2
 obtain ⟨_,_,h5,h6⟩:=zzp h2
 have hL:L.map ba=q.2:=by
  rw [z03d (fun M:List z0a=>M.map ba=q.2.map ba) (fun a x b hb ha=>by rw [z0a0 hb,ha]) h3 rfl,hba]
 have hq1:q.1=s.Procs.map (·.Name):=by
  have key:∀ (l acc b:List ByteArray),fX mAd (.ok acc) l=.ok b→b=acc++l:=by
   intro l
   induction l with
   | nil=>intro acc b hb;injection hb with hb;simp [hb]
   | cons x r ih =>
    intro acc b hb
    rw [zme] at hb
    cases he:mAd acc x with
    | er c=>rw [he,zx3] at hb;cases hb
    | ok v =>
     rw [he] at hb
     unfold mAd at he
     obtain ⟨_,_,rfl⟩:=zl9 he
     rw [ih _ _ hb];simp
  simpa using key _ _ _ h6
 have hl:L.length=s.Chans.length:=by have:=congrArg List.length hL;rw [List.length_map] at this;rw [this,hiv.l]
 refine ⟨by have:=z03e h4;simpa using this,hl,fun i a c ha hc=>?_⟩
 have hc2:q.2[i]?=some (ba c):=by
  rw [← hL]
  show (L.map ba)[i]?=_
  have hc':L[i]?=some c:=hc
  rw [List.getElem?_map,hc'];rfl
 have h8:=(zq4 h5).2 i a (ba c) ha hc2
 unfold ch1 at h8
 obtain ⟨f,f1,h8⟩:=zcx h8
 obtain ⟨t,t1,h8⟩:=zcx h8
 obtain ⟨_,_,h8⟩:=zl9 h8
 rw [hq1] at f1 t1
 have e1:c.Kind=a.Kind:=(congrArg z0a.Kind h8).symm
 have e2:c.Size=a.Size:=(congrArg z0a.Size h8).symm
 have e3:c.Tags=(a.Tags.length:Int):=(congrArg z0a.Tags h8).symm
 have e4:f=c.From:=congrArg z0a.From h8
 have e5:t=c.To:=congrArg z0a.To h8
 exact ⟨e1,e2,e3,by rw [← e4];exact f1,by rw [← e5];exact t1⟩
def zeb (W:Nat→Nat→Int) (n:Nat):List (List Int):=(List.range n).map fun k=>[W k 0 - 1,W k 1 - 1]
theorem zds (W:Nat→Nat→Int) (n:Nat):(zeb W n).length=n:=by simp [zeb]
theorem zfq (W:Nat→Nat→Int) {n k:Nat} (h:k<n):(zeb W n)[k]?=some [W k 0 - 1,W k 1 - 1]:=by simp [zeb,h]
theorem z0a1 {W:Nat→Nat→Int} {n:Nat} {top:Int} (h0:0≤top) (hz:∀ k t,n≤k→W k t=0):gro (zeb W n) top 2=zeb W (max n (top.toNat+1)):=by
 refine List.ext_getElem? fun k=>?_
 unfold gro
 by_cases hk:k<n
 ·rw [List.getElem?_append_left (by rw [zds];exact hk),zfq W hk,zfq W (by omega)]
 ·rw [List.getElem?_append_right (by rw [zds];omega),zds]
  by_cases hm:k<max n (top.toNat+1)
  ·rw [zfq W hm,hz k 0 (by omega),hz k 1 (by omega),List.getElem?_replicate,if_pos (by omega)];rfl
  ·rw [List.getElem?_eq_none (by simp;omega),List.getElem?_eq_none (by rw [zds];omega)]
theorem z0a2 (W:Nat→Nat→Int) {n f t:Nat} (hf:f<n) (ht:t<2) (v:Int):(zeb W n).set f ([W f 0 - 1,W f 1 - 1].set t v)=zeb (upd2 W f t (v+1)) n:=by
 refine List.ext_getElem? fun k=>?_
 rw [List.getElem?_set]
 by_cases hk:f=k
 ·subst hk
  rw [if_pos rfl,if_pos (by rw [zds];exact hf),zfq _ hf]
  have:t=0∨t=1:=by omega
  rcases this with h|h <;> subst h
  ·simp [zhm]
  ·simp [zhm]
 ·rw [if_neg hk]
  by_cases h:k<n
  ·rw [zfq _ h,zfq _ h,zhm,zhm,if_neg (by omega),if_neg (by omega)]
  ·rw [List.getElem?_eq_none (by rw [zds];omega),List.getElem?_eq_none (by rw [zds];omega)]
abbrev bB:ByteArray:=ByteArray.mk #[98]
abbrev tg (t:Nat):ByteArray:=if t=0 then aB else bB
theorem b_a:(bB.toList==aB.toList)=false:=by rw [Go.ByteArray.toList_eq,Go.ByteArray.toList_eq];rfl
theorem pl_t {t:Nat} (h:t<2):pl [aB,bB] (tg t)=.ok (t:Int):=by
 have:t=0∨t=1:=by omega
 rcases this with h|h <;> subst h
 ·simp [pl,fi,tg]
 ·simp [pl,fi,tg,b_a]
theorem z087 {W:Nat→Nat→Int} {n f t o:Nat} (hz:∀ k t,n≤k→W k t=0) (hf:f<8) (ho:o<8) (ht:t<2) (h0:W f t=0) :
  mMv [aB,bB] (zeb W n) ⟨(f:Int),tg t,(o:Int)⟩=.ok (zeb (upd2 W f t ((o:Int)+1)) (max n (max f o+1))):=by
 unfold mMv
 rw [pl_t ht,zrv]
 show ((X.must (decide ((f:Int)<8)&&decide ((o:Int)<8)) 11).bd fun _=>_)=_
 rw [show (decide ((f:Int)<8)&&decide ((o:Int)<8))=true by simp;omega]
 show (X.must ((((gro (zeb W n) (max (f:Int) (o:Int)) 2).getD (f:Int).toNat []).getD (t:Int).toNat 0)==-1) 7).mp (fun _=>(gro (zeb W n) (max (f:Int) (o:Int)) 2).set (f:Int).toNat (((gro (zeb W n) (max (f:Int) (o:Int)) 2).getD (f:Int).toNat []).set (t:Int).toNat (o:Int)))=_
 rw [z0a1 (by omega) hz,Int.toNat_natCast,Int.toNat_natCast]
 have e1:(max (f:Int) (o:Int)).toNat=max f o:=by omega
 rw [e1]
 have hfl:f<max n (max f o+1):=by omega
 have e2:(zeb W (max n (max f o+1))).getD f []=[W f 0 - 1,W f 1 - 1]:=by
  rw [List.getD_eq_getElem?_getD,zfq W hfl];rfl
 rw [e2,z0a2 W hfl ht]
 have e3:([W f 0 - 1,W f 1 - 1].getD t 0==-1)=true:=by
  have:t=0∨t=1:=by omega
  rcases this with h|h <;> subst h
  ·simp [h0]
  ·simp [h0]
 rw [e3];rfl
theorem rem8 (x:Int):∃ k:Nat,rem (IntKind.u64.wrap x) 8=some (k:Int)∧k<8:=by
 have h:0≤IntKind.u64.wrap x:=by rw [IntKind.wrap_u64];omega
 refine ⟨((IntKind.u64.wrap x).tmod 8).toNat,?_,?_⟩
 ·unfold rem
  rw [if_neg (by omega),Int.toNat_of_nonneg (Int.tmod_nonneg _ h)]
 ·have:=Int.tmod_lt_of_pos (IntKind.u64.wrap x) (b:=8) (by omega)
  have:=Int.tmod_nonneg 8 h
  omega
theorem and1 (x:Int):∃ t:Nat,IntKind.i64.wrap ((BitVec.ofInt IntKind.i64.bits x &&& BitVec.ofInt IntKind.i64.bits 1).toNat)=(t:Int)∧t<2:=by
 have h:(BitVec.ofInt IntKind.i64.bits x &&& BitVec.ofInt IntKind.i64.bits 1).toNat<2:=by
  rw [BitVec.toNat_and]
  have:(BitVec.ofInt IntKind.i64.bits 1).toNat=1:=by decide
  rw [this]
  have:=Nat.and_le_right (n:=(BitVec.ofInt IntKind.i64.bits x).toNat) (m:=1)
  omega
 exact ⟨_,w64 (by omega) (by omega),h⟩
theorem z05l {n k:Nat} (h:k<n):inA n (k:Int)=some k:=by unfold inA;rw [if_pos (by omega)];simp
def ruS (L:List z3y):z63:=⟨[⟨cB,0,1,pB,qB,[aB,bB]⟩],[⟨cB,L⟩],[⟨pB,[],[]⟩,⟨qB,[],[]⟩]⟩
def ruA (L:List z3y):z17:=⟨[⟨cB,0,1,pB,qB,[aB,bB]⟩],[⟨cB,L.map cMo⟩],[⟨pB,[],[]⟩,⟨qB,[],[]⟩]⟩
theorem z05m (L:List z3y):cSys (ruS L)=ruA L:=by simp [ruS,ruA,cSys,cCh,cPr,cRu,cL]
def Mv (m:z3y):Prop:=∃ f t o:Nat,m=⟨(f:Int),tg t,(o:Int)⟩∧f<8∧t<2∧o<8
theorem z0a3 {L:List z3y} (h:∀ m∈L,Mv m):okSys (ruA L):=by
 have z1:pB.size≤4194304:=by decide
 have z2:qB.size≤4194304:=by decide
 have z3:aB.size≤4194304:=by decide
 have z4:cB.size≤4194304:=by decide
 have z5:bB.size≤4194304:=by decide
 refine ⟨?_,?_,?_⟩
 ·simp only [ruA,List.mem_cons,List.not_mem_nil,or_false,forall_eq]
  refine ⟨z4,z1,z2,by simp [in64],?_⟩
  simp only [List.mem_cons,List.not_mem_nil,or_false,forall_eq_or_imp,forall_eq]
  exact ⟨z3,z5⟩
 ·simp only [ruA,List.mem_cons,List.not_mem_nil,or_false,forall_eq]
  refine ⟨z4,fun m hm=>?_⟩
  obtain ⟨x,hx,rfl⟩:=List.mem_map.1 hm
  obtain ⟨f,t,o,rfl,h1,h2,h3⟩:=h x hx
  refine ⟨?_,?_,?_⟩
  ·show in64 (f:Int);unfold in64;omega
  ·show (tg t).size≤_;unfold tg;split <;> first|exact z3|exact z5
  ·show in64 (o:Int);unfold in64;omega
 ·simp only [ruA,List.mem_cons,List.not_mem_nil,or_false,forall_eq_or_imp,forall_eq]
  refine ⟨⟨z1,by simp,trivial⟩,⟨z2,by simp,trivial⟩⟩
theorem z0a4 (L:List z3y):zhd (ruA L)=L.length+10:=by
 simp [ruA,zhd,sumN,szCh,szR,szP,szL];omega
theorem zv4 {β:Type} {g:Nat→β→Wr}:∀ {l:List β} {i:Nat},(∀ i,∀ x∈l,(g i x).bad=false)→(flatW g i l).bad=false
 | [],i,h=>rfl
 | x::r,i,h=>by simp only [flatW,Wr.bad_app,h i x List.mem_cons_self,zv4 fun i y hy=>h i y (List.mem_cons_of_mem _ hy),Bool.or_self]
theorem z088 {L:List z3y} (h:∀ m∈L,Mv m):(sSys (ruA L)).bad=false:=by
 have h1:=z9v (b:=112) (by decide)
 have h2:=z9v (b:=113) (by decide)
 have h3:=z9v (b:=97) (by decide)
 have h4:=z9v (b:=99) (by decide)
 have h5:=z9v (b:=98) (by decide)
 have hm:(flatW zry 0 (L.map cMo)).bad=false:=zv4 fun i x hx=>by
  obtain ⟨y,hy,rfl⟩:=List.mem_map.1 hx
  obtain ⟨f,t,o,rfl,a1,a2,a3⟩:=h y hy
  have n1:zom (f:Int)=true:=by unfold zom;simp;omega
  have n2:zom (o:Int)=true:=by unfold zom;simp;omega
  have n3:zp7 (tg t)=true:=by unfold tg;split <;> first|exact h3|exact h5
  simp [zry,cMo,wI,wN,Wri.wW,n1,n2,n3]
 simp [ruA,Wri.sSys,Wri.flatW,Wri.sCh,Wri.sR,Wri.wTag,Wri.sP,Wri.sL,Wri.wW,Wri.wN,Wri.wI,Wri.wM,Wr.nil,Wri.kindOk,h1,h2,h3,h4,h5,hm,zom]
theorem ru_m {L:List z3y} {R:List (List Int)} (h:fX (mMv [aB,bB]) (.ok (zeb (fun _ _=>0) 1)) (L.map cMo)=.ok R):mSys (ruA L)=.ok ⟨[⟨0,1,0,1,2,R⟩],[⟨0,[]⟩,⟨0,[]⟩]⟩:=by
 have g0:gro [] 0 2=zeb (fun _ _=>0) 1:=by rfl
 have hr:mRl [cB] [⟨cB,0,1,pB,qB,[aB,bB]⟩] [⟨0,1,0,1,2,[]⟩] ⟨cB,L.map cMo⟩=.ok [⟨0,1,0,1,2,R⟩]:=by
  unfold mRl
  rw [show pl [cB] cB=.ok 0 by simp [pl,fi],zrv]
  show ((X.must (((([]:List (List Int)).length:Nat):Int)==0) 7).bd fun _=>(fX (mMv [aB,bB]) (.ok (gro [] 0 2)) (L.map cMo)).mp fun R=>List.set [⟨0,1,0,1,2,[]⟩] 0 (wr ⟨0,1,0,1,2,[]⟩ R))=_
  rw [g0,h];rfl
 have hd:zmw [⟨cB,0,1,pB,qB,[aB,bB]⟩]=.ok [cB]:=by
  simp [zmw,X.must,X.bd,X.mp,fX,mDe,mAp,mAd,fi,b_a]
 have he:zmd (ruA L)=.ok ([pB,qB],[⟨0,1,0,1,2,[]⟩]):=by
  simp [ruA,zmd,X.must,X.bd,X.mp,fX,mAp,mAd,fi,mCs,ch1,pl,q_p,p_q]
 unfold mSys
 rw [show (ruA L).Chans=[⟨cB,0,1,pB,qB,[aB,bB]⟩] from rfl,hd,zrv,he,zrv]
 show ((fX (mRl [cB] [⟨cB,0,1,pB,qB,[aB,bB]⟩]) (.ok [⟨0,1,0,1,2,[]⟩]) [⟨cB,L.map cMo⟩]).bd fun L=>_)=_
 rw [zme,hr]
 simp [fX,X.bd,X.mp,ruA,mPr,mBd,X.must,mAp,mL]
abbrev W0:Nat→Nat→Int:=arr (arr 0 []) [(arr 0 [0,0]),(arr 0 [0,0]),(arr 0 [0,0]),(arr 0 [0,0]),(arr 0 [0,0]),(arr 0 [0,0]),(arr 0 [0,0]),(arr 0 [0,0])]
theorem W0_z (k t:Nat):W0 k t=0:=by
 have h2:∀ t,arr (0:Int) [0,0] t=0:=fun t=>by
  unfold arr
  match t with
  | 0=>rfl
  | 1=>rfl
  | t+2=>simp
 have h0:∀ t,arr (0:Int) [] t=0:=fun t=>by unfold arr;simp
 have:∀ k,W0 k=arr (0:Int) [0,0]∨W0 k=arr (0:Int) []:=fun k=>by
  show arr _ _ k=_∨arr _ _ k=_
  unfold arr
  match k with
  | 0=>exact .inl rfl
  | 1=>exact .inl rfl
  | 2=>exact .inl rfl
  | 3=>exact .inl rfl
  | 4=>exact .inl rfl
  | 5=>exact .inl rfl
  | 6=>exact .inl rfl
  | 7=>exact .inl rfl
  | k+8=>exact .inr (by simp)
 rcases this k with h|h
 ·rw [h];exact h2 t
 ·rw [h];exact h0 t
structure Li (i:Nat) (top:Int) (W:Nat→Nat→Int) (L:List z3y):Prop where
 t0:0≤top
 t7:top<8
 z:∀ k t,top.toNat+1≤k→W k t=0
 r:∀ k t,0≤W k t∧W k t≤8
 l:L.length≤i
 m:∀ x∈L,Mv x
 f:fX (mMv [aB,bB]) (.ok (zeb (fun _ _=>0) 1)) (L.map cMo)=.ok (zeb W (top.toNat+1))
theorem l1_f (a0:List z3y) (j:Nat):∀ (i:Nat) (top:Int) (W:Nat→Nat→Int) (L:List z3y),20 - i=j→i≤20→Li i top W L →
  ∃ top' W' L',iter (z6h a0) (top,(i:Int),W,L)=some (.inr (top',W',L'))∧Li 20 top' W' L':=by
 have stop:∀ (i:Nat) (top:Int) (W:Nat→Nat→Int) (L:List z3y),¬ (i<a0.length∧i<20)→i≤20→Li i top W L→∃ top' W' L',iter (z6h a0) (top,(i:Int),W,L)=some (.inr (top',W',L'))∧Li 20 top' W' L':=fun i top W L h hi hL=>by
  refine ⟨top,W,L,z4l (r:=(Sum.inr (top,W,L):Sum Bool (Int × (Nat→Nat→Int) × List z3y))) ?_,⟨hL.t0,hL.t7,hL.z,hL.r,Nat.le_trans hL.l hi,hL.m,hL.f⟩⟩
  unfold z6h
  by_cases h1:i<a0.length
  ·rw [if_pos (by simpa using h1),obs,if_neg (by simp;omega)]
  ·rw [if_neg (by simpa using h1),obs,if_neg (by decide)]
 induction j with
 | zero=>intro i top W L hj hi hL;exact stop i top W L (by omega) hi hL
 | succ j ih =>
  intro i top W L hj hi hL
  by_cases hc:i<a0.length∧i<20
  ·obtain ⟨h1,h2⟩:=hc
   have hw:IntKind.i64.wrap ((i:Int)+1)=((i+1:Nat):Int):=by rw [w64 (by omega) (by omega)];omega
   obtain ⟨f,f1,f2⟩:=rem8 a0[i].From
   obtain ⟨o,o1,o2⟩:=rem8 a0[i].To
   obtain ⟨t,t1,t2⟩:=and1 a0[i].To
   have wf:IntKind.i64.wrap (f:Int)=(f:Int):=w64 (by omega) (by omega)
   have wo:IntKind.i64.wrap (o:Int)=(o:Int):=w64 (by omega) (by omega)
   have wo1:IntKind.i64.wrap ((o:Int)+1)=(o:Int)+1:=w64 (by omega) (by omega)
   have ht:idx [(ByteArray.mk #[97]),(ByteArray.mk #[98])] (t:Int)=some (tg t):=by
    have:t=0∨t=1:=by omega
    rcases this with h|h <;> subst h <;> rfl
   have hb:z6h a0 (top,(i:Int),W,L)=some (.inl (if W f t > 0 then (top,((i+1:Nat):Int),W,L) else (max (max top (f:Int)) (o:Int),((i+1:Nat):Int),upd2 W f t ((o:Int)+1),L++[⟨(f:Int),tg t,(o:Int)⟩]))):=by
    unfold z6h
    rw [if_pos (by simpa using h1),obs,if_pos (by simp;omega)]
    show ((idx a0 (i:Int)>>=_)>>=_)=_
    rw [zb4 h1,obs,obs,f1,obs,t1,ht,obs,o1,obs,wf,wo,z05l f2,obs,z05l t2,obs]
    by_cases hp:W f t > 0
    ·rw [if_pos (by simpa using hp),if_pos hp,obs]
     dsimp only
     rw [hw]
    ·rw [if_neg (by simpa using hp),if_neg hp,obs,obs,obs,wo1,z7v (by have:=hL.l;simp;omega),obs,obs]
     dsimp only
     rw [hw]
   by_cases hp:W f t > 0
   ·rw [if_pos hp] at hb
    rw [z94 hb]
    exact ih (i+1) top W L (by omega) h2 ⟨hL.t0,hL.t7,hL.z,hL.r,by have:=hL.l;omega,hL.m,hL.f⟩
   ·rw [if_neg hp] at hb
    rw [z94 hb]
    have hz:W f t=0:=by have:=(hL.r f t).1;omega
    have a:=hL.t0
    have b:=hL.t7
    have e1:(max (max top (f:Int)) (o:Int)).toNat+1=max (top.toNat+1) (max f o+1):=by omega
    refine ih (i+1) _ _ _ (by omega) h2 ⟨by omega,by omega,fun k t' hk=>?_,fun k t'=>?_,by have:=hL.l;simp;omega,fun x hx=>?_,?_⟩
    ·rw [zhm,if_neg (by omega)];exact hL.z k t' (by omega)
    ·rw [zhm]
     split
     ·omega
     ·exact hL.r k t'
    ·rcases List.mem_append.1 hx with h|h
     ·exact hL.m x h
     ·rw [List.mem_singleton] at h;subst h;exact ⟨f,t,o,rfl,f2,t2,o2⟩
    ·rw [List.map_append,List.map_cons,List.map_nil,zg4,hL.f,zrv,e1]
     exact z087 hL.z f2 o2 t2 hz
  ·exact stop i top W L hc hi hL
theorem law_CheckRules (a0:List z3y):zde a0=some true:=by
 unfold zde
 obtain ⟨top,W,L,h1,hL⟩:=l1_f a0 20 0 0 W0 [] rfl (by omega) ⟨by omega,by omega,fun k t _=>W0_z k t,fun k t=>by rw [W0_z];omega,by simp,(fun x hx=>by cases hx),by
  show X.ok (zeb (fun _ _=>0) 1)=X.ok (zeb W0 1)
  congr 1⟩
 refine (congrArg (·>>=_) h1).trans ?_
 rw [obs]
 dsimp only [Sum.elim]
 have hs:zhd (cSys (ruS L))=L.length+10:=by rw [z05m];exact z0a4 L
 have hl:=hL.l
 show (zee (ruS L)>>=_)=_
 rw [z089 (by omega),obs,z05m,zzr (z0a3 hL.m) (by rw [← z05m];omega),z088 hL.m,if_neg (by decide),ru_m hL.f,obs,z01u,obs]
 have a:=hL.t0
 have b:=hL.t7
 have hw:IntKind.i64.wrap (top+1)=top+1:=w64 (by omega) (by omega)
 rw [hw]
 rw [if_neg (by decide),if_neg (by simp [rC])]
 show ((((if ((1:Int) != 1)=true then some true else some (((zeb W (top.toNat+1)).length:Int) != top+1)):Option Bool))>>=_)=_
 rw [if_neg (by decide),zds,obs,if_neg (by simp;omega)]
 have key:∀ (d i:Nat),top.toNat+1 - i=d→i≤top.toNat+1→iter (z87 (top,W,L) (rC (X.ok ⟨[⟨0,1,0,1,2,zeb W (top.toNat+1)⟩],[⟨0,[]⟩,⟨0,[]⟩]⟩))) (i:Int)=some (.inr ()):=by
  intro d
  induction d with
  | zero =>
   intro i hd hi
   refine z4l ?_
   unfold z87
   rw [if_neg (by simp;omega)]
  | succ d ih =>
   intro i hd hi
   have hi1:i<top.toNat+1:=by omega
   have hw:IntKind.i64.wrap ((i:Int)+1)=((i+1:Nat):Int):=by rw [w64 (by omega) (by omega)];omega
   have r0:=hL.r i 0
   have r1:=hL.r i 1
   have w0:IntKind.i64.wrap (W i 0 - 1)=W i 0 - 1:=w64 (by omega) (by omega)
   have w1:IntKind.i64.wrap (W i 1 - 1)=W i 1 - 1:=w64 (by omega) (by omega)
   have hr:idx (zeb W (top.toNat+1)) (i:Int)=some [W i 0 - 1,W i 1 - 1]:=by
    unfold idx;rw [if_pos (by omega),Int.toNat_natCast];exact zfq W hi1
   rw [z94 (y:=((i+1:Nat):Int)) (by
    unfold z87
    rw [if_pos (by simp;omega)]
    show (idx (zeb W (top.toNat+1)) (i:Int)>>=_)=_
    rw [hr,obs]
    rw [if_neg (by simp)]
    show (((inA 8 (i:Int)>>=fun v19=>if ((W i 0 - 1) != IntKind.i64.wrap (W v19 0 - 1))=true then some true else (some (W i 1 - 1)>>=fun v20=>inA 8 (i:Int)>>=fun v21=>some (v20 != IntKind.i64.wrap (W v21 1 - 1)))):Option Bool)>>=_)=_
    rw [z05l (by omega),obs,w0,if_neg (by simp),obs,obs,w1,obs,if_neg (by simp)]
    show some (Sum.inl (IntKind.i64.wrap ((i:Int)+1)))=_
    rw [hw])]
   exact ih (i+1) (by omega) (by omega)
 refine (congrArg (·>>=_) (key _ 0 rfl (by omega))).trans ?_
 rfl
end Go.Proofs.YtimbigpplbbjaaaGreatDoor.Abs.Cm

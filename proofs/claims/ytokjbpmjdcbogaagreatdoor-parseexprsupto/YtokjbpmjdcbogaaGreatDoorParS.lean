/- Words that may be written are short. -/
import Derived.Test.YtokjbpmjdcbogaaGreatDoorParT
import Derived.Test.YtokjbpmjdcbogaaGreatDoorPlB
import Derived.Test.YtokjbpmjdcbogaaGreatDoorAbsB
import Derived.Test.YtokjbpmjdcbogaaGreatDoorGwF
namespace Go.Proofs.YtokjbpmjdcbogaaGreatDoor.Abs.Par
open Go Go.RowKit Wri
set_option linter.unusedVariables false
set_option linter.unusedSimpArgs false
theorem zy9:∀ n l p,∀ t∈(lexF n l p).1,t.kind=1→t.text.length≤12:=by
 intro n
 induction n with
 | zero=>intro l p t ht;cases ht
 | succ n ih =>
  intro l p t ht hk
  cases l with
  | nil=>cases ht
  | cons b r =>
   simp only [lexF] at ht
   split at ht
   ·exact ih _ _ t ht hk
   ·cases hw:zfd (b::r) with
    | error e=>rw [hw] at ht;cases ht
    | ok w =>
     rw [hw] at ht
     simp only [List.mem_cons] at ht
     rcases ht with rfl|ht
     ·have hk:w.kind=1:=hk
      have h12:w.len≤12:=by
       rw [zcy] at hw
       split at hw
       ·split at hw
        ·cases hw
        ·injection hw with hw;subst hw;simp only at hk ⊢;omega
       ·split at hw
        ·split at hw
         ·injection hw with hw;subst hw;simp at hk
         ·cases hw
        ·split at hw
         ·cases hw
         ·injection hw with hw;subst hw;simp at hk
      simp only [List.length_take];omega
     ·exact ih _ _ t ht hk
theorem zya {s:ByteArray} (h:z3s s=true):s.size≤24:=by
 unfold z3s at h
 simp only [Bool.and_eq_true] at h
 obtain ⟨⟨h1,h2⟩,h3⟩:=h
 rw [z008 s.data.toList.length _ _ (Nat.le_refl _)] at h3
 have hs:=zy9 s.data.toList.length s.data.toList 0
 unfold finT at h3
 generalize lexF s.data.toList.length s.data.toList 0=z at *
 split at h3
 ·rename_i t r he
  simp only [Bool.and_eq_true,beq_iff_eq] at h3
  obtain ⟨hk,ht⟩:=h3
  unfold told at he
  split at he
  ·cases he
  ·split at he
   ·cases he
   ·cases hz:z.1 with
    | nil=>rw [hz] at he;cases he
    | cons t' r' =>
     rw [hz] at he
     injection he with he1 he2
     subst he1
     have h12:=hs t' (by rw [hz];simp) hk
     have ht':t'.text=s.data.toList:=by
      have:=ht
      rw [Go.ByteArray.toList_eq,Go.ByteArray.toList_eq,zsb] at this
      exact this
     have:s.size=s.data.toList.length:=by cases s;simp [ByteArray.size]
     rw [this,← ht'];omega
 ·cases h3
theorem z009 {n:Int} (h:zb9 n=true):(zfy n).size≤24:=by
 unfold zb9 at h
 simp only [Bool.and_eq_true,decide_eq_true_eq] at h
 have:=Lib.itoa_length_le n (by omega) (by omega)
 have e:(zfy n).size=(Lib.itoa n).length:=by unfold zfy;simp [ByteArray.size]
 omega
end Go.Proofs.YtokjbpmjdcbogaaGreatDoor.Abs.Par
namespace Go.Proofs.YtokjbpmjdcbogaaGreatDoor.Abs.Wri
open Go Go.RowKit Par
def Sh (x:Wr):Prop:=x.bad=false→∀ w∈x.ws,w.size≤24
theorem Sh.app {x y:Wr} (hx:Sh x) (hy:Sh y):Sh (x++y):=fun h w hw=>by
 simp only [Wr.app_def,Bool.or_eq_false_iff] at h
 simp only [Wr.ws_app,List.mem_append] at hw
 rcases hw with hw|hw
 ·exact hx h.1 w hw
 ·exact hy h.2 w hw
theorem sh_M (b:Bool):Sh (wM b):=fun _ w hw=>by cases hw
theorem sh_D (b:Int):Sh (wD b):=fun _ w hw=>by cases hw
theorem sh_W {l:List ByteArray} (h:∀ w∈l,w.size≤24):Sh (wW l):=fun _ w hw=>h w hw
theorem sh_1 {w:ByteArray} (h:w.size≤24):Sh (wW [w]):=sh_W fun v hv=>by simp at hv;subst hv;exact h
theorem sh_N (s:ByteArray):Sh (wN s):=fun h w hw=>by
 simp only [wN,List.mem_singleton] at hw;subst hw
 simp only [wN,Bool.not_eq_false'] at h
 exact zya h
theorem sh_I (n:Int):Sh (wI n):=fun h w hw=>by
 simp only [wI,List.mem_singleton] at hw;subst hw
 simp only [wI,Bool.not_eq_false'] at h
 exact z009 h
theorem sh_P {m:Bool} {f:Int→Wr} {p:Int} (h:∀ q,Sh (f q)):Sh (inP m f p):=by
 have h1:=h (p+1)
 have h2:=h p
 unfold inP
 repeat' first
  | assumption|exact sh_D _|exact sh_1 (by decide)|apply Sh.app|split
theorem zq3 (e:z06):Sh (zdo e):=by
 unfold zdo
 repeat' first
  | exact sh_M _|exact sh_I _|exact sh_N _|apply Sh.app|split
theorem zub (k:Int):(znn k).size≤24:=by unfold znn;split <;> decide
theorem sh_E:∀ (e:z06) (p:Int),Sh (sE e p)
 | ⟨k,n,s,[]⟩,p=>by simp only [sE];exact zq3 _
 | ⟨k,n,s,[x]⟩,p=>by
  simp only [sE]
  split
  ·exact Sh.app (sh_1 (by decide)) (Sh.app (sh_D _) (sh_P (sh_E x)))
  ·exact zq3 _
 | ⟨k,n,s,[l,r]⟩,p=>by
  simp only [sE]
  split
  ·exact Sh.app (sh_P (sh_E l)) (Sh.app (sh_1 (zub k)) (sh_P (sh_E r)))
  ·exact zq3 _
 | ⟨k,n,s,a::b::c::l⟩,p=>by simp only [sE];exact zq3 _
def oneW (w:Bs) (x:W):Prop:=zfd w=.ok x∧x.len=w.length
theorem zw2:∀ (n:Nat) (l:Bs) (p:Nat),l.length≤n→∀ t∈(lexS l p).1,t.text.length≤l.length:=by
 intro n
 induction n with
 | zero =>
  intro l p h t ht
  have:l=[]:=List.eq_nil_of_length_eq_zero (by omega)
  subst this
  rw [lexS] at ht;cases ht
 | succ n ih =>
  intro l p h t ht
  cases l with
  | nil=>rw [lexS] at ht;cases ht
  | cons b r =>
   simp only [List.length_cons] at h ⊢
   rw [lexS] at ht
   split at ht
   ·have:=ih r _ (by omega) t ht;omega
   ·split at ht
    ·cases ht
    ·rename_i w hw
     simp only [List.mem_cons] at ht
     rcases ht with rfl|ht
     ·simp only [List.length_take,List.length_cons];omega
     ·have:=ih (r.drop (w.len - 1)) _ (by simp;omega) t ht
      simp only [List.length_drop] at this;omega
theorem zq4 {s:ByteArray} (h:z3s s=true):∃ x,oneW s.data.toList x∧x.kind=1∧∀ b∈s.data.toList.head?,isB b=false:=by
 unfold z3s at h
 simp only [Bool.and_eq_true] at h
 obtain ⟨_,h3⟩:=h
 have hs:=zw2 s.data.toList.length s.data.toList
 unfold finT at h3
 generalize hl:s.data.toList=l at *
 split at h3
 ·rename_i t r he
  simp only [Bool.and_eq_true,beq_iff_eq] at h3
  obtain ⟨hk,ht⟩:=h3
  unfold told at he
  split at he
  ·cases he
  ·split at he
   ·cases he
   ·cases l with
    | nil=>rw [lexS] at he;cases he
    | cons b q =>
     have hb:isB b=false:=by
      cases hb:isB b with
      | false=>rfl
      | true =>
       rw [lexS,if_pos hb] at he
       cases hz:(lexS q (0+1)).1 with
       | nil=>rw [hz] at he;cases he
       | cons t' r' =>
        rw [hz] at he
        injection he with he1 he2
        subst he1
        have h4:=zw2 q.length q (0+1) (Nat.le_refl _) t' (by rw [hz];simp)
        rw [Go.ByteArray.toList_eq,Go.ByteArray.toList_eq,hl] at ht
        have ht:t'.text=b::q:=by simpa [tokT] using ht
        rw [ht] at h4;simp at h4;omega
     rw [lexS] at he
     simp only [hb,Bool.false_eq_true,if_false] at he
     cases hw:zfd (b::q) with
     | error e=>rw [hw] at he;cases he
     | ok w =>
      rw [hw] at he
      simp only [List.map_cons] at he
      injection he with he1 he2
      subst he1
      rw [Go.ByteArray.toList_eq,Go.ByteArray.toList_eq,hl] at ht
      have ht:(b::q).take w.len=b::q:=by simpa [tokT] using ht
      have h1:=congrArg List.length ht
      have h2:=(zkn hw).2
      rw [List.length_take] at h1
      exact ⟨w,⟨hw,by omega⟩,hk,fun c hc=>by simp at hc;subst hc;exact hb⟩
 ·cases h3
theorem z00a (d:Nat) (h:d<10):isD (UInt8.ofNat (48+d))=true∧(UInt8.ofNat (48+d)).toNat - 48=d∧(UInt8.ofNat (48+d)=48→d=0)∧isL (UInt8.ofNat (48+d))=false∧isA (UInt8.ofNat (48+d))=true∧isB (UInt8.ofNat (48+d))=false:=by
 have:d=0∨d=1∨d=2∨d=3∨d=4∨d=5∨d=6∨d=7∨d=8∨d=9:=by omega
 rcases this with rfl|rfl|rfl|rfl|rfl|rfl|rfl|rfl|rfl|rfl <;> decide
theorem z00b (t:Bs) (b:UInt8):dval (t++[b])=10*dval t+(b.toNat - 48):=by simp [dval,List.foldl_append]
theorem z00c:∀ u:Nat,dval (Lib.decDigits u)=u∧(∀ b∈Lib.decDigits u,isD b=true∧isL b=false∧isA b=true∧isB b=false)∧Lib.decDigits u≠[]∧((Lib.decDigits u).head?=some 48→u=0):=by
 intro u
 induction u using Nat.strongRecOn with
 | _ u ih =>
 by_cases h:u<10
 ·have hd:=z00a u h
  rw [Lib.decDigits,dif_pos h]
  refine ⟨by simp only [dval,List.foldl_cons,List.foldl_nil];omega,fun b hb=>?_,by simp,fun hh=>?_⟩
  ·rw [List.mem_singleton] at hb;subst hb;exact ⟨hd.1,hd.2.2.2.1,hd.2.2.2.2.1,hd.2.2.2.2.2⟩
  ·rw [List.head?_cons,Option.some.injEq] at hh;exact hd.2.2.1 hh
 ·have hd:=z00a (u % 10) (by omega)
  obtain ⟨h1,h2,h3,h4⟩:=ih (u / 10) (by omega)
  rw [Lib.decDigits,dif_neg h]
  refine ⟨by rw [z00b,h1,hd.2.1];omega,fun b hb=>?_,by simp,fun hh=>?_⟩
  ·rcases List.mem_append.1 hb with hb|hb
   ·exact h2 b hb
   ·rw [List.mem_singleton] at hb;subst hb;exact ⟨hd.1,hd.2.2.2.1,hd.2.2.2.2.1,hd.2.2.2.2.2⟩
  ·cases hq:Lib.decDigits (u / 10) with
   | nil=>exact absurd hq h3
   | cons b r =>
    rw [hq] at hh h4
    have:=h4 (by simpa using hh)
    omega
theorem zw3:∀ w:Bs,(∀ b∈w,isA b=true)→runL w=w.length
 | [],_=>rfl
 | b::r,h=>by rw [zev,if_pos (h b (by simp)),zw3 r (fun c hc=>h c (by simp [hc]))];rfl
theorem z07c (u:Nat) (hu:u≤2147483647):oneW (Lib.decDigits u) ⟨2,(Lib.decDigits u).length,u⟩∧∀ b∈(Lib.decDigits u).head?,isB b=false:=by
 obtain ⟨h1,h2,h3,h4⟩:=z00c u
 have hr:=zw3 _ (fun b hb=>(h2 b hb).2.2.1)
 have hall:(Lib.decDigits u).all isD=true:=List.all_eq_true.2 fun b hb=>(h2 b hb).1
 have hlen:(Lib.decDigits u).length≤10∧((Lib.decDigits u).head?=some 48→(Lib.decDigits u).length=1):=by
  by_cases h0:u=0
  ·subst h0;rw [Lib.decDigits,dif_pos (by omega)];exact ⟨by simp,fun _=>by simp⟩
  ·cases hq:Lib.decDigits u with
   | nil=>exact absurd hq h3
   | cons c r =>
    rw [hq] at h1 h2 h4
    exact ⟨zw4 c r (h2 c (by simp)).1 (fun hc=>h0 (h4 (by simp [hc]))) (by omega),fun hh=>absurd (h4 hh) h0⟩
 cases hq:Lib.decDigits u with
 | nil=>exact absurd hq h3
 | cons c r =>
  rw [hq] at h1 h2 hr hall hlen
  have hc:=h2 c (by simp)
  have ht:(c::r).take (c::r).length=c::r:=by simp
  refine ⟨⟨?_,rfl⟩,fun b hb=>by simp at hb;subst hb;exact hc.2.2.2⟩
  rw [zcy,if_neg (by rw [hc.2.1];decide),if_pos hc.1,hr,ht]
  have hok:zsc (c::r)=true:=by
   unfold zsc
   simp only [Bool.and_eq_true,decide_eq_true_eq,hall,Bool.not_eq_true',Bool.and_eq_false_iff,decide_eq_false_iff_not]
   refine ⟨⟨⟨hlen.1,?_⟩,trivial⟩,by omega⟩
   by_cases h48:(c::r).head?=some 48
   ·left;have:=hlen.2 h48;omega
   ·right;simpa using h48
  rw [if_pos hok,h1]
theorem zmb {n:Int} (h:zb9 n=true):oneW (zfy n).data.toList ⟨2,(zfy n).data.toList.length,n.toNat⟩∧∀ b∈(zfy n).data.toList.head?,isB b=false:=by
 unfold zb9 at h
 simp only [Bool.and_eq_true,decide_eq_true_eq] at h
 have e:(zfy n).data.toList=Lib.decDigits n.toNat:=by
  unfold zfy Lib.itoa
  rw [if_neg (by omega)]
 rw [e]
 exact z07c n.toNat (by omega)
def oneS (s:ByteArray):Bool:=match zfd s.data.toList with
 | .ok x=>x.len==s.data.toList.length&&!((s.data.toList.head?.map isB).getD true)
 | .error _=>false
theorem z00d {s:ByteArray} {x:W} (h:oneW s.data.toList x) (hb:∀ b∈s.data.toList.head?,isB b=false):oneS s=true:=by
 unfold oneS
 obtain ⟨h1,h2⟩:=h
 rw [h1]
 cases hq:s.data.toList with
 | nil=>rw [hq] at h1;cases h1
 | cons b r=>rw [hq] at hb h2;simp [h2,hb b (by simp)]
theorem z00e {s:ByteArray} (h:oneS s=true):∃ x,oneW s.data.toList x∧∀ b∈s.data.toList.head?,isB b=false:=by
 unfold oneS at h
 cases hw:zfd s.data.toList with
 | error e=>rw [hw] at h;cases h
 | ok x =>
  rw [hw] at h
  simp only [Bool.and_eq_true,beq_iff_eq] at h
  refine ⟨x,⟨hw,h.1⟩,fun b hb=>?_⟩
  have h2:=h.2
  rw [Option.mem_def.1 hb] at h2
  simpa using h2
theorem z00f {s:ByteArray} (h:z3s s=true):oneS s=true:=by
 obtain ⟨x,h1,_,h2⟩:=zq4 h
 exact z00d h1 h2
theorem z035 {n:Int} (h:zb9 n=true):oneS (zfy n)=true:=z00d (zmb h).1 (zmb h).2
def Ow (x:Wr):Prop:=x.bad=false→∀ w∈x.ws,oneS w=true
theorem Ow.app {x y:Wr} (hx:Ow x) (hy:Ow y):Ow (x++y):=fun h w hw=>by
 simp only [Wr.app_def,Bool.or_eq_false_iff] at h
 simp only [Wr.ws_app,List.mem_append] at hw
 rcases hw with hw|hw
 ·exact hx h.1 w hw
 ·exact hy h.2 w hw
theorem ow_M (b:Bool):Ow (wM b):=fun _ w hw=>by cases hw
theorem ow_D (b:Int):Ow (wD b):=fun _ w hw=>by cases hw
theorem ow_W {l:List ByteArray} (h:∀ w∈l,oneS w=true):Ow (wW l):=fun _ w hw=>h w hw
theorem ow_1 {w:ByteArray} (h:oneS w=true):Ow (wW [w]):=ow_W fun v hv=>by simp at hv;subst hv;exact h
theorem ow_N (s:ByteArray):Ow (wN s):=fun h w hw=>by
 simp only [wN,List.mem_singleton] at hw;subst hw
 simp only [wN,Bool.not_eq_false'] at h
 exact z00f h
theorem ow_I (n:Int):Ow (wI n):=fun h w hw=>by
 simp only [wI,List.mem_singleton] at hw;subst hw
 simp only [wI,Bool.not_eq_false'] at h
 exact z035 h
theorem ow_P {m:Bool} {f:Int→Wr} {p:Int} (h:∀ q,Ow (f q)):Ow (inP m f p):=by
 have h1:=h (p+1)
 have h2:=h p
 unfold inP
 repeat' first
  | assumption|exact ow_D _|exact ow_1 (by decide)|apply Ow.app|split
theorem zq5 (e:z06):Ow (zdo e):=by
 unfold zdo
 repeat' first
  | exact ow_M _|exact ow_I _|exact ow_N _|apply Ow.app|split
theorem z00g (k:Int):oneS (znn k)=true:=by unfold znn;split <;> decide
theorem ow_E:∀ (e:z06) (p:Int),Ow (sE e p)
 | ⟨k,n,s,[]⟩,p=>by simp only [sE];exact zq5 _
 | ⟨k,n,s,[x]⟩,p=>by
  simp only [sE]
  split
  ·exact Ow.app (ow_1 (by decide)) (Ow.app (ow_D _) (ow_P (ow_E x)))
  ·exact zq5 _
 | ⟨k,n,s,[l,r]⟩,p=>by
  simp only [sE]
  split
  ·exact Ow.app (ow_P (ow_E l)) (Ow.app (ow_1 (z00g k)) (ow_P (ow_E r)))
  ·exact zq5 _
 | ⟨k,n,s,a::b::c::l⟩,p=>by simp only [sE];exact zq5 _
end Go.Proofs.YtokjbpmjdcbogaaGreatDoor.Abs.Wri
namespace Go.Proofs.YtokjbpmjdcbogaaGreatDoor.Abs.Par
open Go Go.RowKit Wri
set_option linter.unusedVariables false
set_option linter.unusedSimpArgs false
theorem bind_mono {α β:Type} {o o':Rs α} {k k':α→List Tok→Rs β} (h:o.bind k≠.out) (h1:o≠.out→o'=o) (h2:∀ v r,k v r≠.out→k' v r=k v r):o'.bind k'=o.bind k:=by
 cases o with
 | ok v r=>rw [h1 (by simp)];exact h2 v r h
 | er c p=>rw [h1 (by simp)];rfl
 | out=>exact absurd rfl h
structure Mo (L:Int) (f g:Nat):Prop where
 fac:∀ d ts,z63 L f d ts≠.out→z63 L g d ts=z63 L f d ts
 mul:∀ d e ts,sMul L f d e ts≠.out→sMul L g d e ts=sMul L f d e ts
 term:∀ d ts,zdh L f d ts≠.out→zdh L g d ts=zdh L f d ts
 add:∀ d e ts,sAdd L f d e ts≠.out→sAdd L g d e ts=sAdd L f d e ts
 exp:∀ d ts,zdi L f d ts≠.out→zdi L g d ts=zdi L f d ts
theorem mo (L:Int):∀ f g,f≤g→Mo L f g:=by
 intro f
 induction f with
 | zero=>intro g _;exact ⟨fun d ts h=>(h (by simp only [z63])).elim,fun d e ts h=>(h (by simp only [sMul])).elim,fun d ts h=>(h (by simp only [zdh])).elim,fun d e ts h=>(h (by simp only [sAdd])).elim,fun d ts h=>(h (by simp only [zdi])).elim⟩
 | succ f ih =>
  intro g hg
  cases g with
  | zero=>omega
  | succ g =>
   have ih:=ih g (by omega)
   refine ⟨fun d ts h=>?_,fun d e ts h=>?_,fun d ts h=>?_,fun d e ts h=>?_,fun d ts h=>?_⟩
   ·simp only [z63] at h ⊢
    by_cases h1:z27 (ByteArray.mk #[45]) ts=true
    ·rw [if_pos h1,if_pos h1];rw [if_pos h1] at h
     by_cases h2:d=24
     ·rw [if_pos h2,if_pos h2]
     ·rw [if_neg h2,if_neg h2];rw [if_neg h2] at h
      exact bind_mono h (ih.fac _ _) (fun v r _=>rfl)
    ·rw [if_neg h1,if_neg h1];rw [if_neg h1] at h
     by_cases h1:z27 (ByteArray.mk #[40]) ts=true
     ·rw [if_pos h1,if_pos h1];rw [if_pos h1] at h
      by_cases h2:d=24
      ·rw [if_pos h2,if_pos h2]
      ·rw [if_neg h2,if_neg h2];rw [if_neg h2] at h
       exact bind_mono h (ih.exp _ _) (fun v r _=>rfl)
     ·rw [if_neg h1,if_neg h1]
   ·simp only [sMul] at h ⊢
    cases hj:z3p mulS ts with
    | none=>rfl
    | some j=>rw [hj] at h;exact bind_mono h (ih.fac _ _) (fun v r hk=>ih.mul _ _ _ hk)
   ·simp only [zdh] at h ⊢
    exact bind_mono h (ih.fac _ _) (fun v r hk=>ih.mul _ _ _ hk)
   ·simp only [sAdd] at h ⊢
    cases hj:z3p addS ts with
    | none=>rfl
    | some j=>rw [hj] at h;exact bind_mono h (ih.term _ _) (fun v r hk=>ih.add _ _ _ hk)
   ·simp only [zdi] at h ⊢
    exact bind_mono h (ih.term _ _) (fun v r hk=>ih.add _ _ _ hk)
structure MoS (L:Int) (f g:Nat):Prop where
 stmts:∀ i ts,z8q L f i ts≠.out→z8q L g i ts=z8q L f i ts
 stmt:∀ i ts,zc9 L f i ts≠some .out→zc9 L g i ts=zc9 L f i ts
 arm:∀ i ts,sArm L f i ts≠.out→sArm L g i ts=sArm L f i ts
 arms:∀ i ts,zfe L f i ts≠.out→zfe L g i ts=zfe L f i ts
 block:∀ i ts,z9y L f i ts≠.out→z9y L g i ts=z9y L f i ts
theorem zuc {α:Type} {x:Rs α} (h:some x≠some .out):x≠.out:=fun e=>h (by rw [e])
theorem moS (L:Int):∀ f g,f≤g→MoS L f g:=by
 intro f
 induction f with
 | zero=>intro g _;exact ⟨fun d ts h=>(h (by simp only [z8q])).elim,fun d ts h=>(h (by simp only [zc9])).elim,fun d ts h=>(h (by simp only [sArm])).elim,fun d ts h=>(h (by simp only [zfe])).elim,fun d ts h=>(h (by simp only [z9y])).elim⟩
 | succ f ih =>
  intro g hg
  cases g with
  | zero=>omega
  | succ g =>
   have ih:=ih g (by omega)
   refine ⟨fun i ts h=>?_,fun i ts h=>?_,fun i ts h=>?_,fun i ts h=>?_,fun i ts h=>?_⟩
   ·simp only [z8q] at h ⊢
    have hs:zc9 L f i ts≠some .out:=fun e=>by rw [e] at h;exact h rfl
    rw [ih.stmt i ts hs]
    cases ho:zc9 L f i ts with
    | none=>rfl
    | some o=>rw [ho] at h;exact bind_mono h (fun _=>rfl) (fun v r hk=>bind_mono hk (ih.stmts _ _) (fun _ _ _=>rfl))
   ·simp only [zc9] at h ⊢
    by_cases h1:z27 (ByteArray.mk #[105,102]) ts=true
    ·rw [if_pos h1,if_pos h1];rw [if_pos h1] at h
     refine congrArg some (bind_mono (zuc h) (fun _=>rfl) fun c r1 h2=>bind_mono h2 (ih.block _ _) fun b r2 h3=>?_)
     by_cases h4:z27 (ByteArray.mk #[101,108,115,101]) r2=true
     ·rw [if_pos h4,if_pos h4];rw [if_pos h4] at h3
      exact bind_mono h3 (ih.block _ _) (fun _ _ _=>rfl)
     ·rw [if_neg h4,if_neg h4]
    rw [if_neg h1,if_neg h1];rw [if_neg h1] at h
    by_cases h1:z27 (ByteArray.mk #[119,104,105,108,101]) ts=true
    ·rw [if_pos h1,if_pos h1];rw [if_pos h1] at h
     exact congrArg some (bind_mono (zuc h) (fun _=>rfl) fun c r1 h2=>bind_mono h2 (ih.block _ _) fun b r2 h3=>rfl)
    rw [if_neg h1,if_neg h1];rw [if_neg h1] at h
    by_cases h1:z27 (ByteArray.mk #[115,101,110,100]) ts=true
    ·rw [if_pos h1,if_pos h1]
    rw [if_neg h1,if_neg h1];rw [if_neg h1] at h
    by_cases h1:z27 (ByteArray.mk #[114,101,99,118]) ts=true
    ·rw [if_pos h1,if_pos h1];rw [if_pos h1] at h
     exact congrArg some (bind_mono (zuc h) (fun _=>rfl) fun c r1 h2=>bind_mono h2 (fun _=>rfl) fun b r2 h3=>bind_mono h3 (ih.arm _ _) fun _ _ h4=>bind_mono h4 (ih.arms _ _) fun _ _ _=>rfl)
    rw [if_neg h1,if_neg h1]
   ·simp only [sArm] at h ⊢
    exact bind_mono h (fun _=>rfl) fun _ _ h=>bind_mono h (fun _=>rfl) fun _ _ h=>bind_mono h (fun _=>rfl) fun _ _ h=>bind_mono h (fun _=>rfl) fun _ _ h=>bind_mono h (ih.block _ _) fun _ _ _=>rfl
   ·simp only [zfe] at h ⊢
    by_cases h1:z27 (ByteArray.mk #[125]) ts=true
    ·rw [if_pos h1,if_pos h1]
    rw [if_neg h1,if_neg h1];rw [if_neg h1] at h
    exact bind_mono h (ih.arm _ _) fun _ _ h=>bind_mono h (ih.arms _ _) fun _ _ _=>rfl
   ·simp only [z9y] at h ⊢
    by_cases h1:(z27 (ByteArray.mk #[123]) ts&&decide (i=24))=true
    ·rw [if_pos h1,if_pos h1]
    rw [if_neg h1,if_neg h1];rw [if_neg h1] at h
    exact bind_mono h (fun _=>rfl) fun _ _ h=>bind_mono h (ih.stmts _ _) fun _ _ _=>rfl
section
variable (L:Int)
def BF (d:Nat) (ts:List Tok) (e:z04) (r:List Tok):Prop:=∃ f0,∀ f,f0≤f→z63 L f d ts=.ok e r
def BM (d:Nat) (a:z04) (ts:List Tok) (e:z04) (r:List Tok):Prop:=∃ f0,∀ f,f0≤f→sMul L f d a ts=.ok e r
def BT (d:Nat) (ts:List Tok) (e:z04) (r:List Tok):Prop:=∃ f0,∀ f,f0≤f→zdh L f d ts=.ok e r
def BA (d:Nat) (a:z04) (ts:List Tok) (e:z04) (r:List Tok):Prop:=∃ f0,∀ f,f0≤f→sAdd L f d a ts=.ok e r
def BE (d:Nat) (ts:List Tok) (e:z04) (r:List Tok):Prop:=∃ f0,∀ f,f0≤f→zdi L f d ts=.ok e r
end
section
variable {L:Int} {d:Nat} {ts r r':List Tok} {a e e':z04}
theorem BE.eX (h:BE L 0 ts e r):eX L ts=.ok e r:=by
 obtain ⟨f0,h⟩:=h
 have:=(mo L (4*ts.length+3) (max f0 (4*ts.length+3)) (Nat.le_max_right _ _)).exp 0 ts zyb
 unfold Par.eX
 rw [← this]
 exact h _ (Nat.le_max_left _ _)
theorem z0ai {t:Tok} (hk:t.kind=2):BF L d (t::r) ⟨1,(t.num:Int),nB,[]⟩ r:=⟨1,fun f hf=>by
 cases f with
 | zero=>omega
 | succ f=>simp [z63,z27,sOf,sNum,hk,Rs.bind]⟩
theorem z07d {t:Tok} (hk:t.kind=1):BF L d (t::r) ⟨2,0,⟨t.text.toArray⟩,[]⟩ r:=⟨1,fun f hf=>by
 cases f with
 | zero=>omega
 | succ f=>simp [z63,z27,sOf,zcd,hk,Rs.bind]⟩
theorem z0aj (h:z27 (ByteArray.mk #[45]) ts=true) (hd:d≠24) (h2:BF L (d+1) ts.tail e r):BF L d ts ⟨3,0,nB,[e]⟩ r:=by
 obtain ⟨f0,h2⟩:=h2
 refine ⟨f0+1,fun f hf=>?_⟩
 cases f with
 | zero=>omega
 | succ f =>
  simp only [z63]
  rw [if_pos h,if_neg hd,h2 f (by omega)]
  rfl
theorem z0ak (h0:z27 (ByteArray.mk #[45]) ts=false) (h:z27 (ByteArray.mk #[40]) ts=true) (hd:d≠24) (h2:BE L (d+1) ts.tail e r) (h3:z27 (ByteArray.mk #[41]) r=true):BF L d ts e r.tail:=by
 obtain ⟨f0,h2⟩:=h2
 refine ⟨f0+1,fun f hf=>?_⟩
 cases f with
 | zero=>omega
 | succ f =>
  simp only [z63]
  rw [if_neg (by simp [h0]),if_pos h,if_neg hd,h2 f (by omega)]
  simp only [Rs.bind,z8z,h3,if_true]
theorem zud (h:z3p mulS ts=none):BM L d a ts a ts:=⟨1,fun f hf=>by
 cases f with
 | zero=>omega
 | succ f=>simp only [sMul,h]⟩
theorem bt (h1:BF L d ts e r) (h2:BM L d e r e' r'):BT L d ts e' r':=by
 obtain ⟨f1,h1⟩:=h1
 obtain ⟨f2,h2⟩:=h2
 refine ⟨f1+f2+1,fun f hf=>?_⟩
 cases f with
 | zero=>omega
 | succ f =>
  simp only [zdh]
  rw [h1 f (by omega)]
  exact h2 f (by omega)
theorem z07e (h:z3p addS ts=none):BA L d a ts a ts:=⟨1,fun f hf=>by
 cases f with
 | zero=>omega
 | succ f=>simp only [sAdd,h]⟩
theorem be (h1:BT L d ts e r) (h2:BA L d e r e' r'):BE L d ts e' r':=by
 obtain ⟨f1,h1⟩:=h1
 obtain ⟨f2,h2⟩:=h2
 refine ⟨f1+f2+1,fun f hf=>?_⟩
 cases f with
 | zero=>omega
 | succ f =>
  simp only [zdi]
  rw [h1 f (by omega)]
  exact h2 f (by omega)
end
section
variable (L:Int)
def BSs (i:Nat) (ts:List Tok) (l:List z03) (r:List Tok):Prop:=∃ f0,∀ f,f0≤f→z8q L f i ts=.ok l r
def BS1 (i:Nat) (ts:List Tok) (s:z03) (r:List Tok):Prop:=∃ f0,∀ f,f0≤f→zc9 L f i ts=some (.ok s r)
end
section
variable {L:Int} {i:Nat} {ts r r':List Tok}
theorem BSs.body {l:List z03} (h:BSs L 0 ts l r) (hne:zm5 L ts≠.out):zm5 L ts=.ok l r:=by
 obtain ⟨f0,h⟩:=h
 have:=(moS L (3*ts.length+2) (max f0 (3*ts.length+2)) (Nat.le_max_right _ _)).stmts 0 ts hne
 unfold zm5
 rw [← this]
 exact h _ (Nat.le_max_left _ _)
theorem z07f (h:∀ f,zc9 L (f+1) i ts=none):BSs L i ts [] ts:=⟨2,fun f hf=>by
 cases f with
 | zero=>omega
 | succ f=>cases f with
  | zero=>omega
  | succ f=>simp only [z8q,h]⟩
theorem z036 {s:z03} {l:List z03} (h1:BS1 L i ts s r) (h2:BSs L i r l r'):BSs L i ts (s::l) r':=by
 obtain ⟨f1,h1⟩:=h1
 obtain ⟨f2,h2⟩:=h2
 refine ⟨f1+f2+1,fun f hf=>?_⟩
 cases f with
 | zero=>omega
 | succ f =>
  simp only [z8q]
  rw [h1 f (by omega)]
  simp only [Rs.bind]
  rw [h2 f (by omega)]
end
def IsT (w:ByteArray) (t:Tok):Prop:=t.text=w.data.toList∧∃ x,oneW w.data.toList x∧t.kind=x.kind∧t.num=x.num
def isK (w:ByteArray):Bool:=match zfd w.data.toList with|.ok x=>decide (x.kind≥3)|.error _=>false
def wIdx:List ByteArray→ByteArray→Option Nat
 | [],_=>none
 | v::l,w=>if w.data.toList==v.data.toList then some 0 else (wIdx l w).map (· + 1)
section
variable {w w':ByteArray} {t:Tok} {r:List Tok}
theorem IsT.kind (h:IsT w t) (hk:isK w=true):t.kind≥3:=by
 obtain ⟨h1,x,⟨h2,_⟩,h3,_⟩:=h
 unfold isK at hk;rw [h2] at hk
 rw [h3];simpa using hk
theorem IsT.sees (h:IsT w t) (hk:isK w=true):z27 w (t::r)=true:=by
 have:=h.kind hk
 simp [z27,h.1,this]
theorem IsT.no (h:IsT w t) (hne:(w.data.toList==w'.data.toList)=false):z27 w' (t::r)=false:=by
 simp only [z27,h.1,hne,Bool.and_false]
theorem IsT.which (h:IsT w t) (hk:isK w=true):∀ ws,z3p ws (t::r)=wIdx ws w
 | []=>rfl
 | v::l=>by
  have:=h.kind hk
  have e:decide (t.kind≥3)=true:=by simpa using this
  simp only [z3p,wIdx,IsT.which h hk l,z27,h.1,e,Bool.true_and]
theorem IsT.of (h:IsT w t) (hk:isK w=true):sOf 1 (t::r)=false:=by
 have:=h.kind hk
 simp only [sOf,beq_eq_false_iff_ne];omega
theorem IsT.must {L:Int} (h:IsT w t) (hk:isK w=true):z8z L w (t::r)=.ok () r:=by
 unfold z8z;rw [if_pos (h.sees hk)];rfl
theorem zq6 (h:t.kind=1):z27 w (t::r)=false:=by simp [z27,h]
theorem z00h {ts:List Tok} (h:z27 w ts=true):sOf 1 ts=false:=by
 cases ts with
 | nil=>cases h
 | cons t r =>
  simp only [z27,Bool.and_eq_true,decide_eq_true_eq] at h
  simp only [sOf,beq_eq_false_iff_ne];omega
theorem zlg {ts:List Tok} (h:z27 w ts=true) (hne:(w.data.toList==w'.data.toList)=false):z27 w' ts=false:=by
 cases ts with
 | nil=>rfl
 | cons t r =>
  simp only [z27,Bool.and_eq_true,beq_iff_eq] at h
  simp only [z27,h.2,hne,Bool.and_false]
theorem zq7 {L:Int} {s:ByteArray} (h:t.kind=1) (ht:t.text=s.data.toList):zcd L (t::r)=.ok s r:=by
 simp [zcd,h,ht]
end
def Rw:List ByteArray→List Tok→List Tok→Prop
 | [],ts,r=>ts=r
 | w::ws,ts,r=>∃ t ts',ts=t::ts'∧IsT w t∧Rw ws ts' r
theorem Rw.app:∀ {a b:List ByteArray} {ts r:List Tok},Rw (a++b) ts r→∃ m,Rw a ts m∧Rw b m r
 | [],b,ts,r,h=>⟨ts,rfl,h⟩
 | w::a,b,ts,r,h=>by
  obtain ⟨t,ts',e,ht,h⟩:=h
  obtain ⟨m,h1,h2⟩:=Rw.app h
  exact ⟨m,⟨t,ts',e,ht,h1⟩,h2⟩
def G (x:Wr) (ts r:List Tok):Prop:=x.bad=false∧x.dp=false∧Rw x.ws ts r
section
variable {x y:Wr} {ts r:List Tok}
theorem G.app (h:G (x++y) ts r):∃ m,G x ts m∧G y m r:=by
 obtain ⟨h1,h2,h3⟩:=h
 simp only [Wr.bad_app,Wr.dp_app,Bool.or_eq_false_iff,Wr.ws_app] at h1 h2 h3
 obtain ⟨m,h4,h5⟩:=h3.app
 exact ⟨m,⟨h1.1,h2.1,h4⟩,⟨h1.2,h2.2,h5⟩⟩
theorem G.w {w:ByteArray} (h:G (Wri.wW [w]) ts r):∃ t,ts=t::r∧IsT w t:=by
 obtain ⟨_,_,t,ts',e,ht,h⟩:=h
 have h:ts'=r:=h
 subst h
 exact ⟨t,e,ht⟩
theorem G.w2 {w v:ByteArray} (h:G (Wri.wW [w,v]) ts r):∃ t t',ts=t::t'::r∧IsT w t∧IsT v t':=by
 obtain ⟨_,_,t,ts',e,ht,t',ts2,e',ht',h⟩:=h
 have h:ts2=r:=h
 subst h;subst e'
 exact ⟨t,t',e,ht,ht'⟩
theorem G.d {q:Int} (h:G (wD q) ts r):q≤24∧ts=r:=by
 obtain ⟨_,h2,h3⟩:=h
 simp only [wD,decide_eq_false_iff_not] at h2
 exact ⟨by omega,h3⟩
theorem G.m {b:Bool} (h:G (Wri.wM b) ts r):b=true∧ts=r:=by
 obtain ⟨h1,_,h3⟩:=h
 simp only [Wri.wM,Bool.not_eq_false'] at h1
 exact ⟨h1,h3⟩
theorem G.nil (h:G Wr.nil ts r):ts=r:=h.2.2
theorem G.n {s:ByteArray} (h:G (wN s) ts r):∃ t,ts=t::r∧t.kind=1∧t.text=s.data.toList:=by
 obtain ⟨h1,_,t,ts',e,⟨ht,x,⟨hx,_⟩,hk,_⟩,h3⟩:=h
 have h3:ts'=r:=h3
 subst h3
 simp only [wN,Bool.not_eq_false'] at h1
 obtain ⟨y,⟨hy,_⟩,hk',_⟩:=zq4 h1
 rw [hx] at hy
 injection hy with hy
 subst hy
 exact ⟨t,e,by rw [hk,hk'],ht⟩
theorem G.i {n:Int} (h:G (wI n) ts r):∃ t,ts=t::r∧t.kind=2∧(t.num:Int)=n:=by
 obtain ⟨h1,_,t,ts',e,⟨ht,x,⟨hx,_⟩,hk,hn⟩,h3⟩:=h
 have h3:ts'=r:=h3
 subst h3
 simp only [wI,Bool.not_eq_false'] at h1
 obtain ⟨⟨hy,_⟩,_⟩:=zmb h1
 rw [hx] at hy
 injection hy with hy
 subst hy
 refine ⟨t,e,hk,?_⟩
 unfold zb9 at h1
 simp only [Bool.and_eq_true,decide_eq_true_eq] at h1
 rw [hn]
 show ((n.toNat:Nat):Int)=n
 omega
end
def bkE:z06→z04
 | ⟨k,n,s,[]⟩=>if k==1 then ⟨1,n,nB,[]⟩ else ⟨2,0,s,[]⟩
 | ⟨k,n,s,[x]⟩=>⟨3,0,nB,[bkE x]⟩
 | ⟨k,n,s,[l,r]⟩=>⟨k,0,nB,[bkE l,bkE r]⟩
 | ⟨k,n,s,a::b::c::l⟩=>zE
structure RtE (L:Int) (e:z06):Prop where
 fac:z88 e.Kind=false→∀ (d:Nat) ts r,G (sE e (d:Int)) ts r→BF L d ts (bkE e) r
 term:sumK e.Kind=false→∀ (d:Nat) ts r e' r',G (sE e (d:Int)) ts r→BM L d (bkE e) r e' r'→BT L d ts e' r'
 exp:∀ (d:Nat) ts r e' r',G (sE e (d:Int)) ts r→z3p mulS r=none→BA L d (bkE e) r e' r'→BE L d ts e' r'
section
variable {L:Int} {e:z06}
theorem RtE.of_fac (h:∀ (d:Nat) ts r,G (sE e (d:Int)) ts r→BF L d ts (bkE e) r):RtE L e :=
 ⟨fun _=>h,fun _ d ts r e' r' hg hm=>bt (h d ts r hg) hm,fun d ts r e' r' hg hn ha=>be (bt (h d ts r hg) (zud hn)) ha⟩
theorem RtE.of_term (hp:z88 e.Kind=true) (h:∀ (d:Nat) ts r e' r',G (sE e (d:Int)) ts r→BM L d (bkE e) r e' r'→BT L d ts e' r'):RtE L e :=
 ⟨fun h'=>absurd (hp.symm.trans h') (by decide),fun _=>h,fun d ts r e' r' hg hn ha=>be (h d ts r _ _ hg (zud hn)) ha⟩
theorem RtE.of_exp (hp:z88 e.Kind=true) (hs:sumK e.Kind=true) (h:∀ (d:Nat) ts r e' r',G (sE e (d:Int)) ts r→z3p mulS r=none→BA L d (bkE e) r e' r'→BE L d ts e' r'):RtE L e :=
 ⟨fun h'=>absurd (hp.symm.trans h') (by decide),fun h'=>absurd (hs.symm.trans h') (by decide),h⟩
theorem zq8 {ts r:List Tok} (h:G (zdo e) ts r):e.Kids=[]∧((e.Kind=1∧∃ t,ts=t::r∧t.kind=2∧(t.num:Int)=e.Num)∨(e.Kind=2∧∃ t,ts=t::r∧t.kind=1∧t.text=e.Name.data.toList)):=by
 unfold zdo at h
 obtain ⟨m,h1,h2⟩:=h.app
 obtain ⟨hk,rfl⟩:=h1.m
 refine ⟨?_,?_⟩
 ·have:e.Kids.length=0:=by simpa using hk
  exact List.eq_nil_of_length_eq_zero this
 ·split at h2
  ·rename_i h0
   exact .inl ⟨by simpa using h0,h2.i⟩
  ·obtain ⟨m',h3,h4⟩:=h2.app
   obtain ⟨h5,rfl⟩:=h3.m
   exact .inr ⟨by simpa using h5,h4.n⟩
theorem zxn {k:Int} (h:z88 k=true):k=4∨k=5∨k=6∨k=7∨k=8:=by
 unfold z88 at h
 simp only [Bool.and_eq_true,decide_eq_true_eq] at h
 omega
theorem z037 {k:Int} {t:Tok} {m:List Tok} (hk:z88 k=true) (hs:sumK k=true) (ht:IsT (znn k) t):z3p mulS (t::m)=none∧∃ j:Nat,z3p addS (t::m)=some j∧4+(j:Int)=k:=by
 rcases zxn hk with rfl|rfl|rfl|rfl|rfl
 ·exact ⟨by rw [ht.which (by decide)];decide,0,by rw [ht.which (by decide)];decide,by decide⟩
 ·exact ⟨by rw [ht.which (by decide)];decide,1,by rw [ht.which (by decide)];decide,by decide⟩
 all_goals exact absurd hs (by decide)
theorem z038 {k:Int} {t:Tok} {m:List Tok} (hk:z88 k=true) (hs:sumK k=false) (ht:IsT (znn k) t):∃ j:Nat,z3p mulS (t::m)=some j∧6+(j:Int)=k:=by
 rcases zxn hk with rfl|rfl|rfl|rfl|rfl
 ·exact absurd hs (by decide)
 ·exact absurd hs (by decide)
 ·exact ⟨0,by rw [ht.which (by decide)];decide,by decide⟩
 ·exact ⟨1,by rw [ht.which (by decide)];decide,by decide⟩
 ·exact ⟨2,by rw [ht.which (by decide)];decide,by decide⟩
end
def bkC (c:z3t):z1k:=⟨c.Op,bkE c.L,bkE c.R⟩
mutual
def bkS:z05→z03
 | .mk k n t e c bo el ar =>
  if k==1 then .mk 1 n nB (bkE e) zC [] [] []
  else if k==2 then .mk 2 nB nB zE (bkC c) (bkL bo) (bkL el) []
  else if k==3 then .mk 3 nB nB zE (bkC c) (bkL bo) [] []
  else if k==4 then .mk 4 n t (bkE e) zC [] [] []
  else if k==5 then .mk 5 n nB zE zC [] [] (bkA ar)
  else if k==6 then .mk 6 nB nB zE (bkC c) [] [] []
  else .mk 7 n nB zE zC [] [] []
def bkL:List z05→List z03
 | []=>[]
 | s::r=>bkS s::bkL r
def bkA:List z0y→List z2k
 | []=>[]
 | .mk t v b::r=>.mk t v (bkL b)::bkA r
end
theorem z039 {L:Int} {i f:Nat} {ts:List Tok} (h:z27 (ByteArray.mk #[125]) ts=true):zc9 L (f+1) i ts=none:=by
 simp only [zc9]
 rw [zlg h (by decide),zlg h (by decide),zlg h (by decide),zlg h (by decide),zlg h (by decide),zlg h (by decide),z00h h]
 simp only [Bool.false_eq_true,if_false]
section
variable {L:Int}
end
def ML {α:Type} (more:List Tok→Option (Rs α)):List Tok→List α→List Tok→Prop
 | ts,[],r=>ts=r
 | ts,v::l,r=>∃ m,more ts=some (.ok v m)∧ML more m l r
theorem zhr {α:Type} {more:List Tok→Option (Rs α)} (m:More more):∀ (l:List α) (ts r:List Tok) (f:Nat),ML more ts l r→more r=none→ts.length+1≤f→z9d more f ts=.ok l r
 | [],ts,r,f,h,hr,hf=>by
  have h:ts=r:=h
  subst h
  cases f with
  | zero=>omega
  | succ f=>simp only [z9d,hr]
 | v::l,ts,r,f,h,hr,hf=>by
  obtain ⟨s,h1,h2⟩:=h
  have:=(m.suf _ _ _ h1).2
  cases f with
  | zero=>omega
  | succ f =>
   simp only [z9d,h1,Rs.bind]
   rw [zhr m l s r f h2 hr (by omega)]
def bkCh (c:z39):z3l:=⟨c.Name,c.Kind,c.Size,c.From,c.To,c.Tags⟩
def bkMo (c:z4j):z6c:=⟨c.From,c.Tag,c.To⟩
def bkRu (c:z3g):z4t:=⟨c.Chan,c.Moves.map bkMo⟩
def bkPr (c:z3h):z31:=⟨c.Name,c.Vars,bkL c.Body⟩
def zoo (s:z23):z0i:=⟨s.Chans.map bkCh,s.Rules.map bkRu,s.Procs.map bkPr⟩
section
variable {L:Int} {ts r:List Tok}
end
theorem zno:∀ (w rest:Bs),runL w=w.length→(∀ b∈rest.head?,isA b=false)→runL (w++rest)=w.length
 | [],rest,_,hr=>by
  cases rest with
  | nil=>rfl
  | cons b r=>rw [List.nil_append,zev,if_neg (by rw [hr b (by simp)];decide)];rfl
 | b::r,rest,h,hr=>by
  rw [zev] at h
  rw [List.cons_append,zev]
  split at h
  ·rename_i hA
   rw [if_pos hA,zno r rest (by simpa using h) hr]
   rfl
  ·simp at h
theorem zyc {b:UInt8} {r rest:Bs} (h:zf1 (b::r)=(b::r).length) (hr:∀ b∈rest.head?,b≠61):zf1 (b::r++rest)=(b::r).length:=by
 cases r with
 | nil =>
  simp only [zf1,List.length_cons,List.length_nil] at h ⊢
  cases rest with
  | nil=>simpa using h
  | cons c q =>
   have:c≠61:=hr c (by simp)
   simp only [List.cons_append,List.nil_append]
   simpa [this] using h
 | cons c r =>
  simp only [zf1] at h ⊢
  simp only [List.cons_append,List.length_cons] at h ⊢
  simpa using h
def Leaves (w rest:Bs):Prop:=(w.head?.map isA=some true→∀ b∈rest.head?,isA b=false)∧(w.head?.map isA=some false→∀ b∈rest.head?,b≠61)
theorem z00i {b:UInt8}:isA b=true↔isL b=true∨isD b=true:=by unfold isA;simp
theorem z00j {w rest : Bs} {x : W} (h : oneW w x) (hl : Leaves w rest) : zfd (w ++ rest) = .ok x := by
  obtain ⟨h1, h2⟩ := h
  cases w with
  | nil => cases h1
  | cons b r =>
    have hA := hl.1
    have hS := hl.2
    simp only [List.head?_cons, Option.map_some, Option.some.injEq] at hA hS
    rw [zcy] at h1
    rw [List.cons_append, zcy]
    have ht : (b :: (r ++ rest)).take (b :: r).length = b :: r := by rw [← List.cons_append]; simp
    have htt : (b :: r).take (b :: r).length = b :: r := by simp
    split at h1
    · rename_i hL
      rw [if_pos hL]
      split at h1
      · cases h1
      · rename_i h12
        injection h1 with h1; subst h1
        have hr : runL (b :: r) = (b :: r).length := h2
        have hr' := zno (b :: r) rest hr (hA (z00i.2 (.inl hL)))
        rw [List.cons_append] at hr'
        have h12' : ¬ 12 < (b :: r).length := by rw [← hr]; exact h12
        rw [hr', if_neg h12', ht, hr, htt]
    · rename_i hL
      rw [if_neg hL]
      split at h1
      · rename_i hD
        rw [if_pos hD]
        split at h1
        · rename_i hn
          injection h1 with h1; subst h1
          have hr : runL (b :: r) = (b :: r).length := h2
          have hr' := zno (b :: r) rest hr (hA (z00i.2 (.inr hD)))
          rw [List.cons_append] at hr'
          rw [hr, htt] at hn
          rw [hr', ht, if_pos hn, hr, htt]
        · cases h1
      · rename_i hD
        rw [if_neg hD]
        split at h1
        · cases h1
        · rename_i hs
          injection h1 with h1; subst h1
          have hr : zf1 (b :: r) = (b :: r).length := h2
          have hn : isA b = false := by
            cases hb : isA b with
            | false => rfl
            | true => rcases z00i.1 hb with h | h
                      · exact absurd h hL
                      · exact absurd h hD
          have hr' := zyc (rest := rest) hr (hS hn)
          rw [List.cons_append] at hr'
          rw [hr', if_neg (by simp), hr]
theorem z03a {w rest:Bs} {x:W} (h:oneW w x) (hb:∀ b∈w.head?,isB b=false) (hl:Leaves w rest) (p:Nat) :
  lexS (w++rest) p=(⟨x.kind,w,x.num,p⟩::(lexS rest (p+w.length)).1,(lexS rest (p+w.length)).2):=by
 have h1:=z00j h hl
 obtain ⟨h0,h2⟩:=h
 cases w with
 | nil=>cases h0
 | cons b r =>
  have hbb:isB b=false:=hb b (by simp)
  rw [List.cons_append] at h1 ⊢
  rw [zue hbb h1]
  have e1:(b::(r++rest)).drop x.len=rest:=by rw [h2,← List.cons_append];simp
  have e2:(b::(r++rest)).take x.len=b::r:=by rw [h2,← List.cons_append];simp
  rw [e1,e2,h2]
theorem zp9:∀ (s rest:Bs) (p:Nat),s.all isB=true→lexS (s++rest) p=lexS rest (p+s.length)
 | [],rest,p,_=>rfl
 | b::s,rest,p,h=>by
  simp only [List.all_cons,Bool.and_eq_true] at h
  rw [List.cons_append,zlh _ _ h.1,zp9 s rest (p+1) h.2,List.length_cons,Nat.add_assoc,Nat.add_comm 1]
def txt:List (ByteArray × Bs)→Bs
 | []=>[]
 | x::l=>x.1.data.toList++(x.2++txt l)
def Ch:List (ByteArray × Bs)→Prop
 | []=>True
 | x::l=>oneS x.1=true∧x.2.all isB=true∧Leaves x.1.data.toList (x.2++txt l)∧Ch l
theorem z00k:∀ (l:List (ByteArray × Bs)) (p:Nat),Ch l→(lexS (txt l) p).2=none∧Rw (l.map Prod.fst) (lexS (txt l) p).1 []
 | [],p,_=>by rw [txt,zq9];exact ⟨rfl,rfl⟩
 | x::l,p,h=>by
  obtain ⟨h1,h2,h3,h4⟩:=h
  obtain ⟨y,hy,hb⟩:=z00e h1
  obtain ⟨i1,i2⟩:=z00k l (p+x.1.data.toList.length+x.2.length) h4
  simp only [txt]
  rw [z03a hy hb h3,zp9 _ _ _ h2]
  exact ⟨i1,_,_,rfl,⟨rfl,y,hy,rfl,rfl⟩,i2⟩
theorem Rw.len:∀ {ws:List ByteArray} {ts r:List Tok},Rw ws ts r→ts.length=ws.length+r.length
 | [],ts,r,h=>by have h:ts=r:=h;subst h;simp
 | w::ws,ts,r,h=>by
  obtain ⟨t,ts',e,_,h⟩:=h
  have:=Rw.len h
  subst e
  simp only [List.length_cons];omega
theorem z9z {w:Bs} {b:UInt8} {rest:Bs} (hb:isB b=true):Leaves w (b::rest):=by
 have hA:isA b=false∧b≠61:=by
  unfold isB at hb
  simp only [Bool.or_eq_true,beq_iff_eq] at hb
  rcases hb with rfl|rfl <;> decide
 exact ⟨fun _ c hc=>by simp at hc;subst hc;exact hA.1,fun _ c hc=>by simp at hc;subst hc;exact hA.2⟩
def Rel {α β:Type} (Q:α→β→Prop) (l:List α) (l':List β):Prop:=l.length=l'.length∧∀ (i:Nat) (x:α),l[i]?=some x→∃ y,l'[i]?=some y∧Q x y
theorem Rel.nil {α β:Type} {Q:α→β→Prop}:Rel Q [] []:=⟨rfl,fun i x h=>by simp at h⟩
theorem Rel.cons {α β:Type} {Q:α→β→Prop} {a:α} {b:β} {l:List α} {l':List β} (h:Q a b) (hr:Rel Q l l'):Rel Q (a::l) (b::l'):=by
 refine ⟨by simp [hr.1],fun i x hi=>?_⟩
 cases i with
 | zero=>simp at hi;subst hi;exact ⟨b,by simp,h⟩
 | succ i=>simp at hi;obtain ⟨y,hy,hq⟩:=hr.2 i x hi;exact ⟨y,by simpa using hy,hq⟩
theorem Rel.map {α β γ:Type} {Q:α→β→Prop} (f:γ→α) (g:γ→β):∀ (l:List γ),(∀ x∈l,Q (f x) (g x))→Rel Q (l.map f) (l.map g)
 | [],_=>Rel.nil
 | x::l,h=>Rel.cons (h x (by simp)) (Rel.map f g l fun y hy=>h y (by simp [hy]))
theorem znp {β γ O:Type} {Q:β→γ→Prop} {body:Int→Option (Sum Int (Sum O Unit))} {n H:Nat} {l:List β} {l':List γ} (hr:Rel Q l l') (r:O) (hlen:l.length≤4611686018427387904)
  (hs:∀ (i:Nat) (x:β) (y:γ),idx l (i:Int)=some x→idx l' (i:Int)=some y→Q x y→x∈l→i<l.length→IntKind.i64.wrap ((i:Int)+1)=((i+1:Nat):Int)→Sn n H (body (i:Int)) (.inl ((i+1:Nat):Int)))
  (he:body (l.length:Int)=some (.inr (.inr ()))):Sn n H (iter body 0) (.inr ()):=by
 have h:=zqa (n:=n) (H:=H) l (fun _=>true) r hlen (fun i x h0 h1 h2 h3 h4=>by
  obtain ⟨y,hy,hq⟩:=hr.2 i x h0
  have hi:i<l'.length:=by rw [← hr.1];exact h3
  have hy':idx l' (i:Int)=some y:=by rw [zgs hi];rw [List.getElem?_eq_getElem hi] at hy;exact hy
  simpa using hs i x y h1 hy' hq h2 h3 h4) he
 have e:(l.all fun _=>true)=true:=by simp
 rw [e] at h
 simpa using h
theorem z00l {β γ O:Type} {Q:β→γ→Prop} {body:Int→Option (Sum Int (Sum O Unit))} {l:List β} {l':List γ} (hr:Rel Q l l') (r:O) (hlen:l.length≤4611686018427387904)
  (hs:∀ (i:Nat) (x:β) (y:γ),idx l (i:Int)=some x→idx l' (i:Int)=some y→Q x y→x∈l→i<l.length→IntKind.i64.wrap ((i:Int)+1)=((i+1:Nat):Int)→body (i:Int)=some (.inl ((i+1:Nat):Int)))
  (he:body (l.length:Int)=some (.inr (.inr ()))):iter body 0=some (.inr ()):=by
 rcases znp (n:=0) (H:=0) hr r hlen (fun i x y h1 h2 h3 h4 h5 h6=>.inl (hs i x y h1 h2 h3 h4 h5 h6)) he with h|⟨_,h⟩
 ·exact h
 ·omega
mutual
def QE:z06→z06→Prop
 | ⟨k,m,s,l⟩,b=>k=b.Kind∧(k=1→m=b.Num)∧(k=2→s=b.Name)∧QEs l b.Kids
def QEs:List z06→List z06→Prop
 | [],l'=>l'=[]
 | a::l,l'=>∃ b r,l'=b::r∧QE a b∧QEs l r
end
theorem QEs.rel:∀ {l l':List z06},QEs l l'→Rel QE l l'
 | [],l',h=>by simp only [QEs] at h;subst h;exact Rel.nil
 | a::l,l',h=>by
  simp only [QEs] at h
  obtain ⟨b,r,rfl,h1,h2⟩:=h
  exact Rel.cons h1 (QEs.rel h2)
def QC (c d:z3t):Prop:=c.Op=d.Op∧QE c.L d.L∧QE c.R d.R
mutual
def QS:z05→z05→Prop
 | .mk k n t e c bo el ar,b=>k=b.Kind∧(k=1→n=b.Name∧QE e b.E)∧(k=2→QC c b.C∧QL bo b.Body∧QL el b.Else)∧(k=3→QC c b.C∧QL bo b.Body)∧(k=4→n=b.Name∧t=b.Tag∧QE e b.E)
  ∧ (k=5→n=b.Name∧QA ar b.Arms)∧(k=6→QC c b.C)∧(k=7→n=b.Name)
def QL:List z05→List z05→Prop
 | [],l'=>l'=[]
 | a::l,l'=>∃ b r,l'=b::r∧QS a b∧QL l r
def QA:List z0y→List z0y→Prop
 | [],l'=>l'=[]
 | .mk t v bo::l,l'=>∃ b r,l'=b::r∧(t=b.Tag∧v=b.Var∧QL bo b.Body)∧QA l r
end
def QArm (a b:z0y):Prop:=a.Tag=b.Tag∧a.Var=b.Var∧QL a.Body b.Body
theorem QL.rel:∀ {l l':List z05},QL l l'→Rel QS l l'
 | [],l',h=>by simp only [QL] at h;subst h;exact Rel.nil
 | a::l,l',h=>by
  simp only [QL] at h
  obtain ⟨b,r,rfl,h1,h2⟩:=h
  exact Rel.cons h1 (QL.rel h2)
theorem QA.rel:∀ {l l':List z0y},QA l l'→Rel QArm l l'
 | [],l',h=>by simp only [QA] at h;subst h;exact Rel.nil
 | .mk t v bo::l,l',h=>by
  simp only [QA] at h
  obtain ⟨b,r,rfl,h1,h2⟩:=h
  exact Rel.cons h1 (QA.rel h2)
theorem zsd {α β:Type} {Q:α→β→Prop} {l:List α} {l':List β} (h:Rel Q l l'):((l.length:Int) != (l'.length:Int))=false:=by rw [h.1];simp
mutual
theorem sm_E:∀ (e e':z06),QE e e'→szE e≤400000000000→∀ n,Sn n (2*szE e) (z5o n e e') true
 | ⟨k,m,s,l⟩,⟨k',m',s',l'⟩,hq,hz,n=>by
  simp only [szE] at hz ⊢
  simp only [QE] at hq
  obtain ⟨rfl,q1,q2,q3⟩:=hq
  have q3:=q3.rel
  have hm:=z0al l (by omega)
  have hl:=zse l
  have hL:∀ n,Sn n (2*szEs l+1) (z2n n l l') true:=fun n=>by
   cases n with
   | zero=>exact .inr ⟨rfl,by omega⟩
   | succ n =>
    simp only [z2n,zsd q3,Bool.false_eq_true,if_false]
    refine (Sn.bind (f:=Sum.elim (fun r=>some r) (fun j1=>some true)) (znp (O:=Bool) (body:=z4z (z5o n) (z2n n) l l') (n:=n) (H:=2*szEs l) q3 false (by omega) (fun i x y hx hy hq hxm hlt hw=>by
     unfold z4z
     rw [if_pos (by simpa using hlt),hx]
     simp only [hy,Option.bind_eq_bind,Option.bind_some,hw]
     have:=zsf hxm
     exact Sn.bind (f:=_) ((hm x hxm y hq n).mono (by omega)) (.inl rfl)) (by unfold z4z;rw [if_neg (by simp)])) (.inl rfl)).up
  cases n with
  | zero=>exact .inr ⟨rfl,by omega⟩
  | succ n =>
   have hj:((if (k != k)=true then some true else if (k==1)=true then (if (m != m')=true then some true else if (k==2)=true then some (!(s.toList==s'.toList)) else some false) else if (k==2)=true then some (!(s.toList==s'.toList)) else some false):Option Bool)=some false:=by
    by_cases h1:k=1
    ·subst h1;rw [q1 rfl];simp
    ·by_cases h2:k=2
     ·subst h2;rw [q2 rfl];simp
     ·simp [h1,h2]
   simp only [z5o,hj,Option.bind_eq_bind,Option.bind_some,Bool.false_eq_true,if_false,zc8]
   exact (hL n).up.mono (by omega)
theorem z0al:∀ (l:List z06),szEs l≤400000000000→∀ x∈l,∀ y,QE x y→∀ n,Sn n (2*szE x) (z5o n x y) true
 | [],hz,x,h,y,hq,n=>by cases h
 | e::r,hz,x,h,y,hq,n=>by
  simp only [szEs] at hz
  rcases List.mem_cons.1 h with h|h
  ·rw [h] at hq;rw [h];exact sm_E e y hq (by omega) n
  ·exact z0al r (by omega) x h y hq n
end
theorem sm_e {e e':z06} (hq:QE e e') (h:szE e≤400000000000):zc2 e e'=some true:=Sn.unf fun n=>sm_E e e' hq h n
theorem sm_c {c d:z3t} (hq:QC c d) (h:szC c≤400000000000):z9v c d=some true:=by
 unfold szC at h
 unfold z9v
 rw [sm_e hq.2.1 (by omega),sm_e hq.2.2 (by omega),hq.1]
 simp
theorem zmc {l l':List z05} (hq:QL l l') (hz:szL l≤400000000000) (h:∀ x∈l,∀ y,QS x y→∀ n,Sn n (2*szS x) (z41 n x y) true) (n:Nat):Sn n (2*szL l) (z13 n l l') true:=by
 have hl:=z03b l
 have hp:=z6k l
 have hr:=hq.rel
 cases n with
 | zero=>exact .inr ⟨rfl,by omega⟩
 | succ n =>
  simp only [z13,zsd hr,Bool.false_eq_true,if_false]
  refine (Sn.bind (f:=Sum.elim (fun r=>some r) (fun j1=>some true)) (znp (O:=Bool) (body:=z50 (z13 n) (z41 n) (z1s n) (z4p n) l l') (n:=n) (H:=2*szL l - 1) hr false (by omega) (fun i x y hx hy hq hxm hlt hw=>by
   unfold z50
   rw [if_pos (by simpa using hlt),hx]
   simp only [hy,Option.bind_eq_bind,Option.bind_some,hw]
   have:=zw5 hxm
   exact Sn.bind (f:=_) ((h x hxm y hq n).mono (by omega)) (.inl rfl)) (by unfold z50;rw [if_neg (by simp)])) (.inl rfl)).up.mono (by omega)
theorem z07g {l l':List z0y} (hq:QA l l') (hz:szA l≤400000000000) (h:∀ x∈l,∀ y,QArm x y→∀ n,Sn n (2*szL x.Body+1) (z4p n x y) true) (n:Nat):Sn n (2*szA l) (z1s n l l') true:=by
 have hl:=zuf l
 have hp:=zju l
 have hr:=hq.rel
 cases n with
 | zero=>exact .inr ⟨rfl,by omega⟩
 | succ n =>
  simp only [z1s,zsd hr,Bool.false_eq_true,if_false]
  refine (Sn.bind (f:=Sum.elim (fun r=>some r) (fun j1=>some true)) (znp (O:=Bool) (body:=z5p (z13 n) (z41 n) (z1s n) (z4p n) l l') (n:=n) (H:=2*szA l - 1) hr false (by omega) (fun i x y hx hy hq hxm hlt hw=>by
   unfold z5p
   rw [if_pos (by simpa using hlt),hx]
   simp only [hy,Option.bind_eq_bind,Option.bind_some,hw]
   have:=zw6 hxm
   exact Sn.bind (f:=_) ((h x hxm y hq n).mono (by omega)) (.inl rfl)) (by unfold z5p;rw [if_neg (by simp)])) (.inl rfl)).up.mono (by omega)
mutual
theorem sm_S:∀ (s s':z05),QS s s'→szS s≤400000000000→∀ n,Sn n (2*szS s) (z41 n s s') true
 | .mk k nm tg e c bo el ar,.mk k' nm' tg' e' c' bo' el' ar',hq,hz,n=>by
  simp only [szS] at hz ⊢
  have p1:=z6k bo
  have hb:=fun hq=>zmc (l:=bo) (l':=bo') hq (by omega) (sm_L bo (by omega))
  have he:=fun hq=>zmc (l:=el) (l':=el') hq (by omega) (sm_L el (by omega))
  have ha:=fun hq=>z07g (l:=ar) (l':=ar') hq (by omega) (sm_A ar (by omega))
  simp only [QS] at hq
  dsimp only [z05.Kind,z05.Name,z05.Tag,z05.E,z05.C,z05.Body,z05.Else,z05.Arms] at hq
  obtain ⟨rfl,q1,q2,q3,q4,q5,q6,q7⟩:=hq
  cases n with
  | zero=>exact .inr ⟨rfl,by omega⟩
  | succ n =>
   simp only [z41]
   dsimp only [z05.Kind,z05.Name,z05.Tag,z05.E,z05.C,z05.Body,z05.Else,z05.Arms]
   simp only [zw7,Bool.false_eq_true,if_false,Option.bind_eq_bind,zc8]
   refine Sn.mono (h:=2*(4+szE e+szC c+szL bo+szL el+szA ar) - 1+1) (Sn.up ?_) (by omega)
   by_cases h1:k=1
   ·subst h1
    obtain ⟨rfl,qe⟩:=q1 rfl
    simp only [beq_self_eq_true,if_true,sm_e qe (by omega)]
    exact .inl rfl
   rw [if_neg (by simpa using h1)]
   by_cases h1:k=2
   ·subst h1
    obtain ⟨qc,qb,ql⟩:=q2 rfl
    simp only [beq_self_eq_true,if_true,sm_c qc (by omega),Option.bind_some]
    exact Sn.bind (f:=_) ((hb qb n).mono (by omega)) (by simp only [if_true];exact (he ql n).mono (by omega))
   rw [if_neg (by simpa using h1)]
   by_cases h1:k=3
   ·subst h1
    obtain ⟨qc,qb⟩:=q3 rfl
    simp only [beq_self_eq_true,if_true,sm_c qc (by omega),Option.bind_some]
    exact (hb qb n).mono (by omega)
   rw [if_neg (by simpa using h1)]
   by_cases h1:k=4
   ·subst h1
    obtain ⟨rfl,rfl,qe⟩:=q4 rfl
    simp only [beq_self_eq_true,if_true,sm_e qe (by omega)]
    exact .inl rfl
   rw [if_neg (by simpa using h1)]
   by_cases h1:k=5
   ·subst h1
    obtain ⟨rfl,qa⟩:=q5 rfl
    simp only [beq_self_eq_true,if_true]
    exact (ha qa n).mono (by omega)
   rw [if_neg (by simpa using h1)]
   by_cases h1:k=6
   ·subst h1
    simp only [beq_self_eq_true,if_true,sm_c (q6 rfl) (by omega)]
    exact .inl rfl
   rw [if_neg (by simpa using h1)]
   by_cases h1:k=7
   ·subst h1
    obtain rfl:=q7 rfl
    simp only [beq_self_eq_true,if_true]
    exact .inl rfl
   have e7:(k==7)=false:=by simpa using h1
   simp only [e7,Bool.false_eq_true,if_false]
   exact .inl rfl
theorem sm_L:∀ (l:List z05),szL l≤400000000000→∀ x∈l,∀ y,QS x y→∀ n,Sn n (2*szS x) (z41 n x y) true
 | [],hz,x,h,y,hq,n=>by cases h
 | e::r,hz,x,h,y,hq,n=>by
  simp only [szL] at hz
  rcases List.mem_cons.1 h with h|h
  ·rw [h] at hq;rw [h];exact sm_S e y hq (by omega) n
  ·exact sm_L r (by omega) x h y hq n
theorem sm_A:∀ (l:List z0y),szA l≤400000000000→∀ x∈l,∀ y,QArm x y→∀ n,Sn n (2*szL x.Body+1) (z4p n x y) true
 | [],hz,x,h,y,hq,n=>by cases h
 | .mk t v b::r,hz,x,h,y,hq,n=>by
  simp only [szA] at hz
  rcases List.mem_cons.1 h with h|h
  ·rw [h] at hq;rw [h]
   obtain ⟨t',v',b'⟩:=y
   obtain ⟨qt,qv,qb⟩:=hq
   have qt:t=t':=qt
   have qv:v=v':=qv
   subst qt;subst qv
   show Sn n (2*szL b+1) _ true
   have hb:=zmc (l:=b) (l':=b') qb (by omega) (sm_L b (by omega))
   cases n with
   | zero=>exact .inr ⟨rfl,by omega⟩
   | succ n =>
    simp only [z4p]
    dsimp only [z0y.Tag,z0y.Var,z0y.Body]
    simp only [beq_self_eq_true,if_true,Option.bind_eq_bind,zc8]
    exact (hb n).up
  ·exact sm_A r (by omega) x h y hq n
end
theorem sm_l {l l':List z05} (hq:QL l l') (h:szL l≤400000000000):z9l l l'=some true:=Sn.unf fun n=>zmc hq h (sm_L l h) n
def QP (p q:z3h):Prop:=p.Name=q.Name∧p.Vars=q.Vars∧QL p.Body q.Body
theorem z0am {s s':z23} (h:zba s≤400000000000) (hc:s.Chans=s'.Chans) (hr:s.Rules=s'.Rules) (hp:Rel QP s.Procs s'.Procs):zkf s s'=some true:=by
 have n1:=zd4 (c:=szCh) (fun x=>by unfold szCh;omega) s.Chans
 have n2:=zd4 (c:=szR) (fun x=>by unfold szR;omega) s.Rules
 have n3:=zd4 (c:=szP) (fun x=>by unfold szP;omega) s.Procs
 unfold zba at h
 have e1:z7i s.Rules s.Rules=some true:=by
  unfold z7i
  rw [zmd (body:=z5n s.Rules s.Rules) s.Rules false (by omega) (fun i x hx hm hlt hw=>by
   have hz:=zd5 (c:=szR) hm
   unfold szR at hz
   unfold z5n zia
   rw [if_pos (by simpa using hlt),hx]
   simp only [Option.bind_eq_bind,Option.bind_some]
   rw [zyd (by unfold szR at h;omega)]
   simp [hw]) (by unfold z5n;rw [if_neg (by simp)])]
  simp
 have e2:z7j s.Procs s'.Procs=some true:=by
  unfold z7j
  rw [zsd hp,z00l (body:=z5q s.Procs s'.Procs) hp false (by omega) (fun i x y hx hy hq hm hlt hw=>by
   have hz:=zd5 (c:=szP) hm
   unfold szP at hz
   unfold z5q zib
   rw [if_pos (by simpa using hlt),hx]
   obtain ⟨q1,q2,q3⟩:=hq
   simp only [hy,Option.bind_eq_bind,Option.bind_some]
   rw [sm_l q3 (by unfold szP at h;omega),← q1,← q2,zsg (by unfold szP at h;omega)]
   simp [hw]) (by unfold z5q;rw [if_neg (by simp)])]
  simp
 have e3:z6n s.Chans s.Chans=some true:=by
  unfold z6n
  rw [zmd (body:=z52 s.Chans s.Chans) s.Chans false (by omega) (fun i x hx hm hlt hw=>by
   have hz:=zd5 (c:=szCh) hm
   unfold szCh at hz
   unfold z52 zf6
   rw [if_pos (by simpa using hlt),hx]
   simp only [Option.bind_eq_bind,Option.bind_some]
   rw [zsg (by unfold szCh at h;omega)]
   simp [hw]) (by unfold z52;rw [if_neg (by simp)])]
  simp
 unfold zkf
 rw [← hr,← hc,e1,e2,e3]
 simp
theorem qe2 {a b a' b':z06} (h:QE a a') (h':QE b b'):QEs [a,b] [a',b']:=by simp only [QEs];exact ⟨_,_,rfl,h,_,_,rfl,h',rfl⟩
theorem z00m {a b:z05} {l r:List z05} (h:QS a b) (h':QL l r):QL (a::l) (b::r):=by simp only [QL];exact ⟨_,_,rfl,h,h'⟩
theorem z00n {t v:ByteArray} {a b:List z05} {l r:List z0y} (h:QL a b) (h':QA l r):QA (.mk t v a::l) (.mk t v b::r):=by simp only [QA];exact ⟨_,_,rfl,⟨rfl,rfl,h⟩,h'⟩
theorem zgm {e:z06} (h:(zdo e).bad=false):e.Kids=[]∧(e.Kind=1∨e.Kind=2):=by
 unfold zdo at h
 simp only [Wr.bad_app,Bool.or_eq_false_iff,Wri.wM,Bool.not_eq_false'] at h
 refine ⟨?_,?_⟩
 ·have:e.Kids.length=0:=by simpa using h.1
  exact List.eq_nil_of_length_eq_zero this
 ·by_cases h1:e.Kind=1
  ·exact .inl h1
  ·rw [if_neg (by simpa using h1)] at h
   simp only [Wr.bad_app,Bool.or_eq_false_iff,Bool.not_eq_false',beq_iff_eq] at h
   exact .inr h.2.1
theorem z07h {m:Bool} {f:Int→Wr} {p:Int} (h:(inP m f p).bad=false):∃ q,(f q).bad=false:=by
 cases m with
 | true=>simp only [inP,if_true,Wr.bad_app,Bool.or_eq_false_iff] at h;exact ⟨_,h.2.2.1⟩
 | false=>exact ⟨p,h⟩
theorem zsh:∀ (e:z06) (p:Int),(sE e p).bad=false→QE (cE (bkE e)) e∧QE e (cE (bkE e))
 | ⟨k,n,s,[]⟩,p,h=>by
  simp only [sE] at h
  obtain ⟨_,h1|h1⟩:=zgm h
  ·have h1:k=1:=h1
   subst h1
   simp [bkE,cE,cEs,QE,QEs]
  ·have h1:k=2:=h1
   subst h1
   simp [bkE,cE,cEs,QE,QEs]
 | ⟨k,n,s,[x]⟩,p,h=>by
  simp only [sE] at h
  split at h
  ·rename_i hk
   have hk:k=3:=by simpa using hk
   subst hk
   simp only [Wr.bad_app,Bool.or_eq_false_iff] at h
   obtain ⟨q,hq⟩:=z07h h.2.2
   have:=zsh x q hq
   simp [bkE,cE,cEs,QE,QEs,this]
  ·cases (zgm h).1
 | ⟨k,n,s,[l,r]⟩,p,h=>by
  simp only [sE] at h
  split at h
  ·rename_i hk
   simp only [Wr.bad_app,Bool.or_eq_false_iff] at h
   obtain ⟨q,hq⟩:=z07h h.1
   obtain ⟨q',hq'⟩:=z07h h.2.2
   have h1:=zsh l q hq
   have h2:=zsh r q' hq'
   have h3:k≠1∧k≠2:=by rcases zxn hk with rfl|rfl|rfl|rfl|rfl <;> decide
   simp only [bkE,cE,cEs]
   exact ⟨by rw [QE];exact ⟨rfl,fun h=>absurd h h3.1,fun h=>absurd h h3.2,qe2 h1.1 h2.1⟩,by rw [QE];exact ⟨rfl,fun h=>absurd h h3.1,fun h=>absurd h h3.2,qe2 h1.2 h2.2⟩⟩
  ·cases (zgm h).1
 | ⟨k,n,s,a::b::c::l⟩,p,h=>by
  simp only [sE] at h
  cases (zgm h).1
theorem z07i {c:z3t} {p:Int} (h:(sC c p).bad=false):QC (cC (bkC c)) c∧QC c (cC (bkC c)):=by
 unfold sC at h
 simp only [Wr.bad_app,Bool.or_eq_false_iff] at h
 have h1:=zsh _ _ h.2.1
 have h2:=zsh _ _ h.2.2.2.1
 exact ⟨⟨rfl,h1.1,h2.1⟩,⟨rfl,h1.2,h2.2⟩⟩
theorem z03c {f:Int→Wr} {b:Int} (h:(inB f b).bad=false):∃ q,(f q).bad=false:=by
 unfold inB at h
 simp only [Wr.bad_app,Bool.or_eq_false_iff] at h
 exact ⟨_,h.2.2.1⟩
mutual
theorem z0d0:∀ (s:z05) (b p:Int),(sS s b p).bad=false→QS (cS (bkS s)) s∧QS s (cS (bkS s))
 | .mk k n tg e c bo el ar,b,p,h=>by
  have hb:=fun q h=>z00o bo q p h
  have hl:=fun q h=>z00o el q p h
  have ha:=z0an ar b p
  simp only [sS] at h
  by_cases hk:k=1
  ·subst hk
   simp only [beq_self_eq_true,if_true,Wr.bad_app,Bool.or_eq_false_iff] at h
   have:=zsh _ _ h.2.2.1
   simp only [bkS,beq_self_eq_true,if_true,cS]
   exact ⟨by simp only [QS];exact ⟨rfl,fun _=>⟨rfl,this.1⟩,fun h=>absurd h (by decide),fun h=>absurd h (by decide),fun h=>absurd h (by decide),fun h=>absurd h (by decide),fun h=>absurd h (by decide),fun h=>absurd h (by decide)⟩,
    by simp only [QS];exact ⟨rfl,fun _=>⟨rfl,this.2⟩,fun h=>absurd h (by decide),fun h=>absurd h (by decide),fun h=>absurd h (by decide),fun h=>absurd h (by decide),fun h=>absurd h (by decide),fun h=>absurd h (by decide)⟩⟩
  rw [if_neg (by simpa using hk)] at h
  by_cases hk:k=2
  ·subst hk
   simp only [beq_self_eq_true,if_true,Wr.bad_app,Bool.or_eq_false_iff] at h
   have hc:=z07i h.2.1
   obtain ⟨q,hq⟩:=z03c h.2.2.1
   have h1:=hb q hq
   have h2:QL (cL (bkL el)) el∧QL el (cL (bkL el)):=by
    cases el with
    | nil=>simp [bkL,cL,QL]
    | cons s0 el =>
     have h3:=h.2.2.2
     simp only [List.isEmpty_cons,Bool.false_eq_true,if_false,Wr.bad_app,Bool.or_eq_false_iff] at h3
     obtain ⟨q,hq⟩:=z03c h3.2
     exact hl q hq
   simp only [bkS,Int.reduceBEq,Bool.false_eq_true,if_false,if_true,cS]
   exact ⟨by simp only [QS];exact ⟨rfl,fun h=>absurd h (by decide),fun _=>⟨hc.1,h1.1,h2.1⟩,fun h=>absurd h (by decide),fun h=>absurd h (by decide),fun h=>absurd h (by decide),fun h=>absurd h (by decide),fun h=>absurd h (by decide)⟩,
    by simp only [QS];exact ⟨rfl,fun h=>absurd h (by decide),fun _=>⟨hc.2,h1.2,h2.2⟩,fun h=>absurd h (by decide),fun h=>absurd h (by decide),fun h=>absurd h (by decide),fun h=>absurd h (by decide),fun h=>absurd h (by decide)⟩⟩
  rw [if_neg (by simpa using hk)] at h
  by_cases hk:k=3
  ·subst hk
   simp only [beq_self_eq_true,if_true,Wr.bad_app,Bool.or_eq_false_iff] at h
   have hc:=z07i h.2.1
   obtain ⟨q,hq⟩:=z03c h.2.2
   have h1:=hb q hq
   simp only [bkS,Int.reduceBEq,Bool.false_eq_true,if_false,if_true,cS]
   exact ⟨by simp only [QS];exact ⟨rfl,fun h=>absurd h (by decide),fun h=>absurd h (by decide),fun _=>⟨hc.1,h1.1⟩,fun h=>absurd h (by decide),fun h=>absurd h (by decide),fun h=>absurd h (by decide),fun h=>absurd h (by decide)⟩,
    by simp only [QS];exact ⟨rfl,fun h=>absurd h (by decide),fun h=>absurd h (by decide),fun _=>⟨hc.2,h1.2⟩,fun h=>absurd h (by decide),fun h=>absurd h (by decide),fun h=>absurd h (by decide),fun h=>absurd h (by decide)⟩⟩
  rw [if_neg (by simpa using hk)] at h
  by_cases hk:k=4
  ·subst hk
   simp only [beq_self_eq_true,if_true,Wr.bad_app,Bool.or_eq_false_iff] at h
   have:=zsh _ _ h.2.2.2.2.2.1
   simp only [bkS,Int.reduceBEq,Bool.false_eq_true,if_false,if_true,cS]
   exact ⟨by simp only [QS];exact ⟨rfl,fun h=>absurd h (by decide),fun h=>absurd h (by decide),fun h=>absurd h (by decide),fun _=>⟨rfl,rfl,this.1⟩,fun h=>absurd h (by decide),fun h=>absurd h (by decide),fun h=>absurd h (by decide)⟩,
    by simp only [QS];exact ⟨rfl,fun h=>absurd h (by decide),fun h=>absurd h (by decide),fun h=>absurd h (by decide),fun _=>⟨rfl,rfl,this.2⟩,fun h=>absurd h (by decide),fun h=>absurd h (by decide),fun h=>absurd h (by decide)⟩⟩
  rw [if_neg (by simpa using hk)] at h
  by_cases hk:k=5
  ·subst hk
   simp only [beq_self_eq_true,if_true,Wr.bad_app,Bool.or_eq_false_iff] at h
   have:=ha h.2.2.2.2.1
   simp only [bkS,Int.reduceBEq,Bool.false_eq_true,if_false,if_true,cS]
   exact ⟨by simp only [QS];exact ⟨rfl,fun h=>absurd h (by decide),fun h=>absurd h (by decide),fun h=>absurd h (by decide),fun h=>absurd h (by decide),fun _=>⟨rfl,this.1⟩,fun h=>absurd h (by decide),fun h=>absurd h (by decide)⟩,
    by simp only [QS];exact ⟨rfl,fun h=>absurd h (by decide),fun h=>absurd h (by decide),fun h=>absurd h (by decide),fun h=>absurd h (by decide),fun _=>⟨rfl,this.2⟩,fun h=>absurd h (by decide),fun h=>absurd h (by decide)⟩⟩
  rw [if_neg (by simpa using hk)] at h
  by_cases hk:k=6
  ·subst hk
   simp only [beq_self_eq_true,if_true,Wr.bad_app,Bool.or_eq_false_iff] at h
   have hc:=z07i h.2.1
   simp only [bkS,Int.reduceBEq,Bool.false_eq_true,if_false,if_true,cS]
   exact ⟨by simp only [QS];exact ⟨rfl,fun h=>absurd h (by decide),fun h=>absurd h (by decide),fun h=>absurd h (by decide),fun h=>absurd h (by decide),fun h=>absurd h (by decide),fun _=>hc.1,fun h=>absurd h (by decide)⟩,
    by simp only [QS];exact ⟨rfl,fun h=>absurd h (by decide),fun h=>absurd h (by decide),fun h=>absurd h (by decide),fun h=>absurd h (by decide),fun h=>absurd h (by decide),fun _=>hc.2,fun h=>absurd h (by decide)⟩⟩
  rw [if_neg (by simpa using hk)] at h
  by_cases hk:k=7
  ·subst hk
   simp only [bkS,Int.reduceBEq,Bool.false_eq_true,if_false,if_true,cS]
   exact ⟨by simp only [QS];exact ⟨rfl,fun h=>absurd h (by decide),fun h=>absurd h (by decide),fun h=>absurd h (by decide),fun h=>absurd h (by decide),fun h=>absurd h (by decide),fun h=>absurd h (by decide),fun _=>rfl⟩,
    by simp only [QS];exact ⟨rfl,fun h=>absurd h (by decide),fun h=>absurd h (by decide),fun h=>absurd h (by decide),fun h=>absurd h (by decide),fun h=>absurd h (by decide),fun h=>absurd h (by decide),fun _=>rfl⟩⟩
  rw [if_neg (by simpa using hk)] at h
  cases h
theorem z00o:∀ (l:List z05) (b p:Int),(sL l b p).bad=false→QL (cL (bkL l)) l∧QL l (cL (bkL l))
 | [],b,p,h=>by simp [bkL,cL,QL]
 | s::l,b,p,h=>by
  simp only [sL,Wr.bad_app,Bool.or_eq_false_iff] at h
  have h1:=z0d0 s b p h.1
  have h2:=z00o l b p h.2
  simp only [bkL,cL]
  exact ⟨z00m h1.1 h2.1,z00m h1.2 h2.2⟩
theorem z0an:∀ (l:List z0y) (b p:Int),(sA l b p).bad=false→QA (cA (bkA l)) l∧QA l (cA (bkA l))
 | [],b,p,h=>by simp [bkA,cA,QA]
 | .mk t v bo::l,b,p,h=>by
  simp only [sA,Wr.bad_app,Bool.or_eq_false_iff] at h
  obtain ⟨q,hq⟩:=z03c h.2.2.2.2.1
  have h1:=z00o bo q p hq
  have h2:=z0an l b p h.2.2.2.2.2
  simp only [bkA,cA]
  exact ⟨z00n h1.1 h2.1,z00n h1.2 h2.2⟩
end
theorem zw8 {β:Type} {g:Nat→β→Wr}:∀ {l:List β} {i:Nat},(zbb g i l).bad=false→∀ x∈l,∃ j,(g j x).bad=false
 | y::l,i,h,x,hx=>by
  simp only [zbb,Wr.bad_app,Bool.or_eq_false_iff] at h
  rcases List.mem_cons.1 hx with rfl|hx
  ·exact ⟨i,h.1⟩
  ·exact zw8 h.2 x hx
theorem z07j {s:z23} (h:(Wri.sSys s).bad=false):(cSys (zoo s)).Chans=s.Chans∧(cSys (zoo s)).Rules=s.Rules∧Rel QP (cSys (zoo s)).Procs s.Procs∧Rel QP s.Procs (cSys (zoo s)).Procs:=by
 unfold Wri.sSys at h
 simp only [Wr.bad_app,Bool.or_eq_false_iff] at h
 have hp:∀ x∈s.Procs,QP (cPr (bkPr x)) x∧QP x (cPr (bkPr x)):=fun x hx=>by
  obtain ⟨_,h1⟩:=zw8 h.2.2 x hx
  unfold sP at h1
  simp only [Wr.bad_app,Bool.or_eq_false_iff] at h1
  have:=z00o _ _ _ h1.2.2.2.2.1
  exact ⟨⟨rfl,rfl,this.1⟩,⟨rfl,rfl,this.2⟩⟩
 refine ⟨?_,?_,?_,?_⟩
 ·simp only [cSys,zoo,List.map_map]
  exact List.map_id'' (fun x=>rfl) _
 ·simp only [cSys,zoo,List.map_map]
  refine List.map_id'' (fun x=>?_) _
  obtain ⟨c,m⟩:=x
  simp only [Function.comp,bkRu,cRu,List.map_map]
  congr 1
  exact List.map_id'' (fun x=>rfl) _
 ·have:=Rel.map (Q:=QP) (fun x=>cPr (bkPr x)) (fun x=>x) s.Procs (fun x hx=>(hp x hx).1)
  rw [List.map_id'] at this
  simpa [cSys,zoo,List.map_map,Function.comp_def] using this
 ·have:=Rel.map (Q:=QP) (fun x=>x) (fun x=>cPr (bkPr x)) s.Procs (fun x hx=>(hp x hx).2)
  rw [List.map_id'] at this
  simpa [cSys,zoo,List.map_map,Function.comp_def] using this
abbrev z03d:ByteArray:=ByteArray.mk #[112,114,111,99]
abbrev bP:ByteArray:=ByteArray.mk #[112]
abbrev bX:ByteArray:=ByteArray.mk #[120]
abbrev z03e:ByteArray:=ByteArray.mk #[123]
abbrev bEq:ByteArray:=ByteArray.mk #[61]
abbrev z00p:ByteArray:=ByteArray.mk #[59]
abbrev zsi:ByteArray:=ByteArray.mk #[125]
theorem IsT.lit {w:ByteArray} {t:Tok} {x:W} (h:IsT w t) (hw:zfd w.data.toList=.ok x):t.kind=x.kind∧t.num=x.num∧t.text=w.data.toList:=by
 obtain ⟨h1,y,⟨h2,_⟩,h3,h4⟩:=h
 rw [hw] at h2;injection h2 with h2;subst h2
 exact ⟨h3,h4,h1⟩
def oneA (e:z04):z0i:=⟨[],[],[⟨bP,[],[.mk 1 bX nB e zC [] [] []]⟩]⟩
theorem z07k {L:Int} {ts m:List Tok} {e:z04} (h:Rw [z03d,bP,z03e,bX,bEq] ts m) {t1 t2:Tok} (h1:IsT z00p t1) (h2:IsT zsi t2) (hx:eX L m=.ok e [t1,t2]):sAll L ts=.ok (oneA e) []:=by
 obtain ⟨a1,_,rfl,q1,a2,_,rfl,q2,a3,_,rfl,q3,a4,_,rfl,q4,a5,M,rfl,q5,h⟩:=h
 have h:M=m:=h
 rw [← h] at hx
 clear h
 have k2:=q2.lit (x:=⟨1,1,0⟩) rfl
 have k4:=q4.lit (x:=⟨1,1,0⟩) rfl
 have hS:BS1 L 0 (a4  :: a5::M) (.mk 1 bX nB e zC [] [] []) [t2]:=⟨1,fun f hf=>by
  cases f with
  | zero=>omega
  | succ f =>
   have e1:sOf 1 (a4  :: a5::M)=true:=by simp only [sOf,k4.1];rfl
   simp only [zc9,zq6 k4.1,Bool.false_eq_true,if_false,e1,if_true,zdp,zq7 (L:=L) k4.1 k4.2.2,Rs.bind,q5.must (L:=L) (by decide),hx,h1.must (L:=L) (by decide)]⟩
 have hB:=(z036 hS (z07f fun f=>z039 (h2.sees (by decide)))).body z00q
 have hV:z9d (mVar L) ((a4  :: a5::M).length+1) (a4  :: a5::M)=.ok [] (a4  :: a5::M):=zhr (zko (L:=L)) [] _ _ _ rfl (by unfold mVar;rw [zq6 k4.1];rfl) (Nat.le_refl _)
 have hP:zio L (a1::a2::a3::a4  :: a5::M)=some (.ok ⟨bP,[],[.mk 1 bX nB e zC [] [] []]⟩ []):=by
  unfold zio
  rw [if_pos (q1.sees (by decide)),List.tail_cons]
  unfold zli
  simp only [zq7 (L:=L) k2.1 k2.2.2,Rs.bind,q3.must (L:=L) (by decide),hV,hB,h2.must (L:=L) (by decide)]
 have y1:=zhr (zhs (L:=L)) [] (a1::a2::a3::a4  :: a5::M) _ ((a1::a2::a3::a4  :: a5::M).length+1) rfl (by unfold zlj;rw [q1.no (by decide)];rfl) (Nat.le_refl _)
 have y2:=zhr (zht (L:=L)) [] (a1::a2::a3::a4  :: a5::M) _ ((a1::a2::a3::a4  :: a5::M).length+1) rfl (by unfold zlk;rw [q1.no (by decide)];rfl) (Nat.le_refl _)
 have y3:=zhr (znq (L:=L)) [⟨bP,[],[.mk 1 bX nB e zC [] [] []]⟩] (a1::a2::a3::a4  :: a5::M) [] ((a1::a2::a3::a4  :: a5::M).length+1) ⟨[],hP,rfl⟩ rfl (Nat.le_refl _)
 unfold sAll Par.sSys
 simp only [y1,Rs.bind,y2,y3]
 rfl
def two:z04:=⟨1,2,nB,[]⟩
def sgn (s:Nat):ByteArray:=match s with
 | 0=>ByteArray.mk #[43]|1=>ByteArray.mk #[45]|2=>ByteArray.mk #[42]|3=>ByteArray.mk #[47]|_=>ByteArray.mk #[37]
abbrev b2:ByteArray:=ByteArray.mk #[50]
def lw:List Nat→List (ByteArray × Bs)
 | []=>[(z00p,[32]),(zsi,[])]
 | s::l=>(sgn s,[])::(b2,[])::lw l
def lb:List (ByteArray × Bs):=[(z03d,[32]),(bP,[32]),(z03e,[32]),(bX,[32]),(bEq,[32])]
theorem zw9 (s:Nat):∃ b,(sgn s).data.toList=[b]∧isA b=false∧oneS (sgn s)=true:=by
 unfold sgn;split <;> exact ⟨_,rfl,by decide,by decide⟩
theorem z07l:∀ l,∀ b∈(txt (lw l)).head?,isA b=false
 | [],b,h=>by have:some (59:UInt8)=some b:=h;injection this with this;subst this;decide
 | s::l,b,h=>by
  obtain ⟨c,h1,h2,_⟩:=zw9 s
  simp only [lw,txt,h1,List.cons_append,List.head?_cons,Option.mem_def,Option.some.injEq] at h
  subst h;exact h2
theorem z0ao:∀ l,Ch (lw l)
 | []=>⟨by decide,by decide,z9z (by decide),by decide,by decide,⟨fun _ b hb=>by simp [txt] at hb,fun _ b hb=>by simp [txt] at hb⟩,trivial⟩
 | s::l=>by
  obtain ⟨c,h1,h2,h3⟩:=zw9 s
  refine ⟨h3,rfl,?_,by decide,rfl,?_,z0ao l⟩
  ·dsimp only
   rw [h1]
   refine ⟨fun h=>?_,fun h b hb=>?_⟩
   ·rw [List.head?_cons,Option.map_some,h2] at h;cases h
   ·have:some (50:UInt8)=some b:=hb
    injection this with this;subst this;decide
  ·dsimp only
   exact ⟨fun _ b hb=>z07l l b (by simpa using hb),fun h=>by cases h⟩
theorem zug:∀ a b:List (ByteArray × Bs),txt (a++b)=txt a++txt b
 | [],b=>rfl
 | x::a,b=>by simp only [List.cons_append,txt,zug a b,List.append_assoc]
theorem znr {a b:ByteArray} (h:a.size+b.size≤1000000):scat a b=some (a++b):=by unfold scat;rw [if_pos (by omega)]
section
variable (L:Int)
def OF (d:Nat) (ts:List Tok) (o:Rs z04):Prop:=∃ f0,∀ f,f0≤f→z63 L f d ts=o
def OM (d:Nat) (a:z04) (ts:List Tok) (o:Rs z04):Prop:=∃ f0,∀ f,f0≤f→sMul L f d a ts=o
def OT (d:Nat) (ts:List Tok) (o:Rs z04):Prop:=∃ f0,∀ f,f0≤f→zdh L f d ts=o
def OA (d:Nat) (a:z04) (ts:List Tok) (o:Rs z04):Prop:=∃ f0,∀ f,f0≤f→sAdd L f d a ts=o
def OE (d:Nat) (ts:List Tok) (o:Rs z04):Prop:=∃ f0,∀ f,f0≤f→zdi L f d ts=o
end
section
variable {L:Int} {d:Nat} {ts r:List Tok} {a e:z04} {o:Rs z04} {c p:Int}
theorem up2 {P Q R:Nat→Prop} (h1:∃ f0,∀ f,f0≤f→P f) (h2:∃ f0,∀ f,f0≤f→Q f) (h:∀ f,P f→Q f→R (f+1)):∃ f0,∀ f,f0≤f→R f:=by
 obtain ⟨f1,h1⟩:=h1
 obtain ⟨f2,h2⟩:=h2
 refine ⟨f1+f2+1,fun f hf=>?_⟩
 cases f with
 | zero=>omega
 | succ f=>exact h f (h1 f (by omega)) (h2 f (by omega))
theorem up1 {P R:Nat→Prop} (h1:∃ f0,∀ f,f0≤f→P f) (h:∀ f,P f→R (f+1)):∃ f0,∀ f,f0≤f→R f:=up2 h1 ⟨0,fun _ _=>trivial⟩ fun f h1 (_:True)=>h f h1
theorem OE.eX (h:OE L 0 ts o):eX L ts=o:=by
 obtain ⟨f0,h⟩:=h
 have:=(mo L (4*ts.length+3) (max f0 (4*ts.length+3)) (Nat.le_max_right _ _)).exp 0 ts zyb
 unfold Par.eX
 rw [← this]
 exact h _ (Nat.le_max_left _ _)
theorem z07m (h:z27 (ByteArray.mk #[45]) ts=true) (hd:d≠24) (h2:OF L (d+1) ts.tail (.er c p)):OF L d ts (.er c p) :=
 up1 h2 fun f h2=>by simp only [z63];rw [if_pos h,if_neg hd,h2];rfl
theorem z0ap (h:z27 (ByteArray.mk #[45]) ts=true∨z27 (ByteArray.mk #[40]) ts=true):OF L 24 ts (.er 6 (sAt L ts)):=⟨1,fun f hf=>by
 cases f with
 | zero=>omega
 | succ f =>
  simp only [z63]
  cases h1:z27 (ByteArray.mk #[45]) ts with
  | true=>simp
  | false =>
   rcases h with h|h
   ·rw [h1] at h;cases h
   ·simp [h]⟩
theorem z07n (h0:z27 (ByteArray.mk #[45]) ts=false) (h:z27 (ByteArray.mk #[40]) ts=true) (hd:d≠24) (h2:OE L (d+1) ts.tail (.er c p)):OF L d ts (.er c p) :=
 up1 h2 fun f h2=>by simp only [z63];rw [if_neg (by simp [h0]),if_pos h,if_neg hd,h2];rfl
theorem zuh (h:z3p mulS ts=none):OM L d a ts (.ok a ts):=zud h
theorem z07o {j:Nat} {k:z04} (h:z3p mulS ts=some j) (h1:OF L d ts.tail (.ok k r)) (h2:OM L d ⟨6+(j:Int),0,nB,[a,k]⟩ r o):OM L d a ts o :=
 up2 h1 h2 fun f h1 h2=>by simp only [sMul,h];rw [h1];exact h2
theorem z03f {j:Nat} (h:z3p mulS ts=some j) (h1:OF L d ts.tail (.er c p)):OM L d a ts (.er c p) :=
 up1 h1 fun f h1=>by simp only [sMul,h];rw [h1];rfl
theorem z0aq (h1:OF L d ts (.ok e r)) (h2:OM L d e r o):OT L d ts o:=up2 h1 h2 fun f h1 h2=>by simp only [zdh];rw [h1];exact h2
theorem z05f (h1:OF L d ts (.er c p)):OT L d ts (.er c p):=up1 h1 fun f h1=>by simp only [zdh];rw [h1];rfl
theorem zui (h:z3p addS ts=none):OA L d a ts (.ok a ts):=z07e h
theorem z07p {j:Nat} {k:z04} (h:z3p addS ts=some j) (h1:OT L d ts.tail (.ok k r)) (h2:OA L d ⟨4+(j:Int),0,nB,[a,k]⟩ r o):OA L d a ts o :=
 up2 h1 h2 fun f h1 h2=>by simp only [sAdd,h];rw [h1];exact h2
theorem z03g {j:Nat} (h:z3p addS ts=some j) (h1:OT L d ts.tail (.er c p)):OA L d a ts (.er c p) :=
 up1 h1 fun f h1=>by simp only [sAdd,h];rw [h1];rfl
theorem z0ar (h1:OT L d ts (.ok e r)) (h2:OA L d e r o):OE L d ts o:=up2 h1 h2 fun f h1 h2=>by simp only [zdi];rw [h1];exact h2
theorem z05g (h1:OT L d ts (.er c p)):OE L d ts (.er c p):=up1 h1 fun f h1=>by simp only [zdi];rw [h1];rfl
end
def Gb (x:Wr) (ts r:List Tok):Prop:=x.bad=false∧Rw x.ws ts r
def hg (x:Wr):Wr:=⟨x.ws,x.bad,false⟩
section
variable {x y:Wr} {ts r:List Tok}
theorem Gb.g (h:Gb x ts r):G (hg x) ts r:=⟨h.1,rfl,h.2⟩
theorem Gb.app (h:Gb (x++y) ts r):∃ m,Gb x ts m∧Gb y m r:=by
 obtain ⟨h1,h3⟩:=h
 simp only [Wr.bad_app,Bool.or_eq_false_iff,Wr.ws_app] at h1 h3
 obtain ⟨m,h4,h5⟩:=h3.app
 exact ⟨m,⟨h1.1,h4⟩,⟨h1.2,h5⟩⟩
theorem Gb.w {w:ByteArray} (h:Gb (Wri.wW [w]) ts r):∃ t,ts=t::r∧IsT w t:=G.w h.g
theorem Gb.d {q:Int} (h:Gb (wD q) ts r):ts=r:=h.2
end
structure RtD (L:Int) (e:z06):Prop where
 fac:z88 e.Kind=false→∀ (d:Nat) ts r,d≤24→Gb (sE e (d:Int)) ts r→OF L d ts (.ok (bkE e) r)∨∃ p,OF L d ts (.er 6 p)
 term:sumK e.Kind=false→∀ (d:Nat) ts r,d≤24→Gb (sE e (d:Int)) ts r→(∀ o,OM L d (bkE e) r o→OT L d ts o)∨∃ p,OT L d ts (.er 6 p)
 exp:∀ (d:Nat) ts r,d≤24→Gb (sE e (d:Int)) ts r→z3p mulS r=none→(∀ o,OA L d (bkE e) r o→OE L d ts o)∨∃ p,OE L d ts (.er 6 p)
section
variable {L:Int} {e:z06}
theorem z05h {d:Nat} {ts r:List Tok} (hn:z3p mulS r=none) (h:(∀ o,OM L d (bkE e) r o→OT L d ts o)∨∃ p,OT L d ts (.er 6 p)):(∀ o,OA L d (bkE e) r o→OE L d ts o)∨∃ p,OE L d ts (.er 6 p):=by
 rcases h with h|⟨p,h⟩
 ·exact .inl fun o ha=>z0ar (h _ (zuh hn)) ha
 ·exact .inr ⟨p,z05g h⟩
theorem zuj {d:Nat} {ts r:List Tok} (h:OF L d ts (.ok (bkE e) r)∨∃ p,OF L d ts (.er 6 p)):(∀ o,OM L d (bkE e) r o→OT L d ts o)∨∃ p,OT L d ts (.er 6 p):=by
 rcases h with h|⟨p,h⟩
 ·exact .inl fun o ha=>z0aq h ha
 ·exact .inr ⟨p,z05f h⟩
theorem RtD.of_fac (h:∀ (d:Nat) ts r,d≤24→Gb (sE e (d:Int)) ts r→OF L d ts (.ok (bkE e) r)∨∃ p,OF L d ts (.er 6 p)):RtD L e :=
 ⟨fun _=>h,fun _ d ts r hd hg=>zuj (h d ts r hd hg),fun d ts r hd hg hn=>z05h hn (zuj (h d ts r hd hg))⟩
theorem RtD.of_term (hp:z88 e.Kind=true) (h:∀ (d:Nat) ts r,d≤24→Gb (sE e (d:Int)) ts r→(∀ o,OM L d (bkE e) r o→OT L d ts o)∨∃ p,OT L d ts (.er 6 p)):RtD L e :=
 ⟨fun h'=>absurd (hp.symm.trans h') (by decide),fun _=>h,fun d ts r hd hg hn=>z05h hn (h d ts r hd hg)⟩
theorem RtD.of_exp (hp:z88 e.Kind=true) (hs:sumK e.Kind=true) (h:∀ (d:Nat) ts r,d≤24→Gb (sE e (d:Int)) ts r→z3p mulS r=none→(∀ o,OA L d (bkE e) r o→OE L d ts o)∨∃ p,OE L d ts (.er 6 p)):RtD L e :=
 ⟨fun h'=>absurd (hp.symm.trans h') (by decide),fun h'=>absurd (hs.symm.trans h') (by decide),h⟩
theorem z0as {d:Nat} {t t':Tok} {m r:List Tok} {v:z04} (hd:d≤24) (ht:IsT (ByteArray.mk #[40]) t) (ht':IsT (ByteArray.mk #[41]) t') (h:d≤23→OE L (d+1) m (.ok v (t'::r))∨∃ p,OE L (d+1) m (.er 6 p)):OF L d (t::m) (.ok v r)∨∃ p,OF L d (t::m) (.er 6 p):=by
 by_cases h24:d=24
 ·subst h24;exact .inr ⟨_,z0ap (.inr (ht.sees (by decide)))⟩
 ·rcases h (by omega) with h|⟨p,h⟩
  ·exact .inl (z0ak (ht.no (by decide)) (ht.sees (by decide)) h24 h (ht'.sees (by decide)))
  ·exact .inr ⟨p,z07n (ht.no (by decide)) (ht.sees (by decide)) h24 h⟩
theorem z05i (ih:RtD L e) {d:Nat} {ts r:List Tok} (hd:d≤24) (h:Gb (inP true (sE e) (d:Int)) ts r):OF L d ts (.ok (bkE e) r)∨∃ p,OF L d ts (.er 6 p):=by
 simp only [inP,if_true] at h
 obtain ⟨m1,h1,h0⟩:=h.app
 obtain ⟨t,rfl,ht⟩:=h1.w
 obtain ⟨m2,h2,h5⟩:=h0.app
 obtain rfl:=h2.d
 obtain ⟨m3,h3,h4⟩:=h5.app
 obtain ⟨t',rfl,ht'⟩:=h4.w
 have h3:Gb (sE e ((d+1:Nat):Int)) m1 (t'::r):=by simpa using h3
 refine z0as hd ht ht' fun hd'=>?_
 rcases ih.exp (d+1) _ _ (by omega) h3 (by rw [ht'.which (by decide)];decide) with h|h
 ·exact .inl (h _ (zui (by rw [ht'.which (by decide)];decide)))
 ·exact .inr h
theorem z00r (ih:RtD L e) {m:Bool} (hm:m=false→z88 e.Kind=false) {d:Nat} {ts r:List Tok} (hd:d≤24) (h:Gb (inP m (sE e) (d:Int)) ts r):OF L d ts (.ok (bkE e) r)∨∃ p,OF L d ts (.er 6 p):=by
 cases m with
 | true=>exact z05i ih hd h
 | false=>exact ih.fac (hm rfl) d ts r hd h
theorem zwa (ih:RtD L e) {m:Bool} (hm:m=false→sumK e.Kind=false) {d:Nat} {ts r:List Tok} (hd:d≤24) (h:Gb (inP m (sE e) (d:Int)) ts r):(∀ o,OM L d (bkE e) r o→OT L d ts o)∨∃ p,OT L d ts (.er 6 p):=by
 cases m with
 | true=>exact zuj (z05i ih hd h)
 | false=>exact ih.term (hm rfl) d ts r hd h
theorem z03h {ts r:List Tok} (h:Gb (zdo e) ts r):G (zdo e) ts r:=by
 refine ⟨h.1,?_,h.2⟩
 unfold zdo
 split
 ·rfl
 ·rfl
end
theorem rtD (L:Int):∀ e,RtD L e
 | ⟨k,n,s,[]⟩=>RtD.of_fac fun d ts r hd h=>by
  simp only [sE] at h
  obtain ⟨_,⟨h1,t,rfl,h2,h3⟩|⟨h1,t,rfl,h2,h3⟩⟩:=zq8 (z03h h)
  ·have:=z0ai (L:=L) (d:=d) (r:=r) h2
   have h1:k=1:=h1
   have h3:(t.num:Int)=n:=h3
   subst h1
   rw [h3] at this
   exact .inl this
  ·have:=z07d (L:=L) (d:=d) (r:=r) h2
   have h1:k=2:=h1
   have h3:t.text=s.data.toList:=h3
   subst h1
   rw [h3] at this
   exact .inl this
 | ⟨k,n,s,[x]⟩=>RtD.of_fac fun d ts r hd h=>by
  have ih:=rtD L x
  simp only [sE] at h
  split at h
  ·obtain ⟨m,h1,h0⟩:=h.app
   obtain ⟨t,rfl,ht⟩:=h1.w
   obtain ⟨m2,h2,h5⟩:=h0.app
   obtain rfl:=h2.d
   have h:Gb (inP (z88 x.Kind) (sE x) ((d+1:Nat):Int)) m r:=by simpa using h5
   by_cases h24:d=24
   ·subst h24;exact .inr ⟨_,z0ap (.inl (ht.sees (by decide)))⟩
   ·rcases z00r ih (fun h=>h) (by omega) h with h|⟨p,h⟩
    ·have:=z0aj (L:=L) (d:=d) (ts:=t::m) (ht.sees (by decide)) h24 h
     exact .inl this
    ·exact .inr ⟨p,z07m (ht.sees (by decide)) h24 h⟩
  ·have:=(zq8 (z03h h)).1
   cases this
 | ⟨k,n,s,[l,x]⟩ =>
  if hk:z88 k=true then
   if hs:sumK k=true then RtD.of_exp hk hs fun d ts r hd h hn=>by
    have il:=rtD L l
    have ix:=rtD L x
    simp only [sE,hk,hs,if_true,Bool.not_true,Bool.false_and,Bool.or_false] at h
    obtain ⟨m,h1,h2⟩:=h.app
    obtain ⟨m2,h3,h4⟩:=h2.app
    obtain ⟨t,rfl,ht⟩:=h3.w
    obtain ⟨hm,j,hj,ej⟩:=z037 (m:=m2) hk hs ht
    have h1:Gb (sE l (d:Int)) ts (t::m2):=h1
    rcases il.exp d ts _ hd h1 hm with hl|hl
    ·rcases zwa ix (fun h=>h) hd h4 with hx|⟨p,hx⟩
     ·refine .inl fun o ha=>hl o (z07p hj (hx _ (zuh hn)) ?_)
      rw [ej]
      simpa [bkE] using ha
     ·exact .inr ⟨p,hl _ (z03g hj hx)⟩
    ·exact .inr hl
   else RtD.of_term hk fun d ts r hd h=>by
    have il:=rtD L l
    have ix:=rtD L x
    have hs:sumK k=false:=by simpa using hs
    simp only [sE,hk,hs,if_true,Bool.not_false,Bool.true_and] at h
    obtain ⟨m,h1,h2⟩:=h.app
    obtain ⟨m2,h3,h4⟩:=h2.app
    obtain ⟨t,rfl,ht⟩:=h3.w
    obtain ⟨j,hj,ej⟩:=z038 (m:=m2) hk hs ht
    rcases zwa il (fun h=>h) hd h1 with hl|hl
    ·rcases z00r ix (fun h=>(by simpa using h:_∧_).2) hd h4 with hx|⟨p,hx⟩
     ·refine .inl fun o ha=>hl o (z07o hj hx ?_)
      rw [ej]
      simpa [bkE] using ha
     ·exact .inr ⟨p,hl _ (z03f hj hx)⟩
    ·exact .inr hl
  else RtD.of_fac fun d ts r hd h=>by
   simp only [sE,hk,if_false,Bool.false_eq_true] at h
   have:=(zq8 (z03h h)).1
   cases this
 | ⟨k,n,s,a::b::c::l⟩=>RtD.of_fac fun d ts r hd h=>by
  simp only [sE] at h
  have:=(zq8 (z03h h)).1
  cases this
theorem zff:∀ (e:z06) (p q:Int),(sE e p).ws=(sE e q).ws∧(sE e p).bad=(sE e q).bad
 | ⟨k,n,s,[]⟩,p,q=>by simp only [sE,and_self]
 | ⟨k,n,s,[x]⟩,p,q=>by
  have h:∀ m a b,(inP m (sE x) a).ws=(inP m (sE x) b).ws∧(inP m (sE x) a).bad=(inP m (sE x) b).bad:=fun m a b=>by
   cases m with
   | true=>simp only [inP,if_true,Wr.ws_app,Wr.bad_app,(zff x (a+1) (b+1)).1,(zff x (a+1) (b+1)).2];exact ⟨rfl,rfl⟩
   | false=>exact zff x a b
  simp only [sE]
  split
  ·simp only [Wr.ws_app,Wr.bad_app,(h _ (p+1) (q+1)).1,(h _ (p+1) (q+1)).2];exact ⟨rfl,rfl⟩
  ·exact ⟨rfl,rfl⟩
 | ⟨k,n,s,[l,r]⟩,p,q=>by
  have hl:∀ m a b,(inP m (sE l) a).ws=(inP m (sE l) b).ws∧(inP m (sE l) a).bad=(inP m (sE l) b).bad:=fun m a b=>by
   cases m with
   | true=>simp only [inP,if_true,Wr.ws_app,Wr.bad_app,(zff l (a+1) (b+1)).1,(zff l (a+1) (b+1)).2];exact ⟨rfl,rfl⟩
   | false=>exact zff l a b
  have hr:∀ m a b,(inP m (sE r) a).ws=(inP m (sE r) b).ws∧(inP m (sE r) a).bad=(inP m (sE r) b).bad:=fun m a b=>by
   cases m with
   | true=>simp only [inP,if_true,Wr.ws_app,Wr.bad_app,(zff r (a+1) (b+1)).1,(zff r (a+1) (b+1)).2];exact ⟨rfl,rfl⟩
   | false=>exact zff r a b
  simp only [sE]
  split
  ·simp only [Wr.ws_app,Wr.bad_app,(hl _ p q).1,(hl _ p q).2,(hr _ p q).1,(hr _ p q).2,and_self]
  ·exact ⟨rfl,rfl⟩
 | ⟨k,n,s,a::b::c::l⟩,p,q=>by simp only [sE,and_self]
theorem z05j {L:Int} {e:z06} (hb:(sE e 0).bad=false):∀ (k d:Nat) (ts m m2 r:List Tok),d≤24→Rw (List.replicate k (ByteArray.mk #[40])) ts m→Rw (sE e 0).ws m m2→Rw (List.replicate k (ByteArray.mk #[41])) m2 r→z3p mulS r=none→z3p addS r=none →
  OE L d ts (.ok (bkE e) r)∨∃ p,OE L d ts (.er 6 p)
 | 0,d,ts,m,m2,r,hd,h1,h2,h3,hm,ha=>by
  have h1:ts=m:=h1
  have h3:m2=r:=h3
  subst h1;subst h3
  have hw:=zff e 0 (d:Int)
  rcases (rtD L e).exp d ts m2 hd ⟨by rw [← hw.2];exact hb,by rw [← hw.1];exact h2⟩ hm with h|h
  ·exact .inl (h _ (zui ha))
  ·exact .inr h
 | k+1,d,ts,m,m2,r,hd,h1,h2,h3,hm,ha=>by
  rw [List.replicate_succ] at h1
  rw [List.replicate_succ'] at h3
  obtain ⟨t,ts',rfl,ht,h1⟩:=h1
  obtain ⟨m3,h5,t',r',rfl,ht',h4⟩:=h3.app
  have h4:r'=r:=h4
  subst h4
  have:=z0as (L:=L) (v:=bkE e) hd ht ht' (r:=r') (m:=ts') fun hd'=>z05j hb k (d+1) ts' m m2 (t'::r') (by omega) h1 h2 h5 (by rw [ht'.which (by decide)];decide) (by rw [ht'.which (by decide)];decide)
  rcases this with h|⟨p,h⟩
  ·exact .inl (z0ar (z0aq h (zuh hm)) (zui ha))
  ·exact .inr ⟨p,z05g (z05f h)⟩
theorem z03i {L:Int} {ts m:List Tok} {c p:Int} (h:Rw [z03d,bP,z03e,bX,bEq] ts m) (hx:eX L m=.er c p):sAll L ts=.er c p:=by
 obtain ⟨a1,_,rfl,q1,a2,_,rfl,q2,a3,_,rfl,q3,a4,_,rfl,q4,a5,M,rfl,q5,h⟩:=h
 have h:M=m:=h
 rw [← h] at hx
 clear h
 have k2:=q2.lit (x:=⟨1,1,0⟩) rfl
 have k4:=q4.lit (x:=⟨1,1,0⟩) rfl
 have hB:zm5 L (a4::a5::M)=.er c p:=by
  have e1:sOf 1 (a4::a5::M)=true:=by simp only [sOf,k4.1];rfl
  unfold zm5
  simp only [List.length_cons,z8q,zc9,zq6 k4.1,Bool.false_eq_true,if_false,e1,if_true,zdp,zq7 (L:=L) k4.1 k4.2.2,Rs.bind,q5.must (L:=L) (by decide),hx]
 have hV:z9d (mVar L) ((a4::a5::M).length+1) (a4::a5::M)=.ok [] (a4::a5::M):=zhr (zko (L:=L)) [] _ _ _ rfl (by unfold mVar;rw [zq6 k4.1];rfl) (Nat.le_refl _)
 have hP:zio L (a1::a2::a3::a4::a5::M)=some (.er c p):=by
  unfold zio
  rw [if_pos (q1.sees (by decide)),List.tail_cons]
  unfold zli
  simp only [zq7 (L:=L) k2.1 k2.2.2,Rs.bind,q3.must (L:=L) (by decide),hV,hB]
 have y1:=zhr (zhs (L:=L)) [] (a1::a2::a3::a4::a5::M) _ ((a1::a2::a3::a4::a5::M).length+1) rfl (by unfold zlj;rw [q1.no (by decide)];rfl) (Nat.le_refl _)
 have y2:=zhr (zht (L:=L)) [] (a1::a2::a3::a4::a5::M) _ ((a1::a2::a3::a4::a5::M).length+1) rfl (by unfold zlk;rw [q1.no (by decide)];rfl) (Nat.le_refl _)
 have y3:z9d (zio L) ((a1::a2::a3::a4::a5::M).length+1) (a1::a2::a3::a4::a5::M)=.er c p:=by simp only [z9d,hP,Rs.bind]
 unfold sAll Par.sSys
 simp only [y1,Rs.bind,y2,y3]
theorem relR:∀ {l l':List z04},QEs (cEs l) (cEs l')→Rel (fun a b=>QE (cE a) (cE b)) l l'
 | [],[],h=>Rel.nil
 | [],b::l',h=>by simp [cEs,QEs] at h
 | a::l,[],h=>by simp [cEs,QEs] at h
 | a::l,b::l',h=>by
  simp only [cEs,QEs] at h
  obtain ⟨b',r,e,h1,h2⟩:=h
  injection e with e1 e2
  subst e1;subst e2
  exact Rel.cons h1 (relR h2)
mutual
theorem sr_E:∀ (e e':z04),QE (cE e) (cE e')→szE (cE e)≤400000000000→∀ n,Sn n (2*szE (cE e)) (z60 n e e') true
 | ⟨k,m,s,l⟩,⟨k',m',s',l'⟩,hq,hz,n=>by
  simp only [cE,szE] at hz ⊢
  simp only [cE,QE] at hq
  obtain ⟨rfl,q1,q2,q3⟩:=hq
  have q3:=relR q3
  have hm:=z0at l (by omega)
  have hl:=zqb l
  have hlen:((l.length:Int) != (l'.length:Int))=false:=zsd q3
  have hj:((if (k != k)=true then some true else if (k==1)=true then (if (m != m')=true then some true else if (k==2)=true then (if (!(s.toList==s'.toList))=true then some true else some ((l.length:Int) != (l'.length:Int))) else some ((l.length:Int) != (l'.length:Int))) else if (k==2)=true then (if (!(s.toList==s'.toList))=true then some true else some ((l.length:Int) != (l'.length:Int))) else some ((l.length:Int) != (l'.length:Int))):Option Bool)=some false:=by
   rw [hlen]
   by_cases h1:k=1
   ·subst h1;rw [q1 rfl];simp
   ·by_cases h2:k=2
    ·subst h2;rw [q2 rfl];simp
    ·simp [h1,h2]
  cases n with
  | zero=>exact .inr ⟨rfl,by omega⟩
  | succ n =>
   simp only [z60,hj,Option.bind_eq_bind,Option.bind_some,Bool.false_eq_true,if_false]
   exact (Sn.bind (f:=Sum.elim (fun r=>some r) (fun j1=>some true)) (znp (O:=Bool) (body:=z8y (z60 n) ⟨k,m,s,l⟩ ⟨k,m',s',l'⟩) (n:=n) (H:=2*szEs (cEs l)) q3 false (by omega) (fun i x y hx hy hq hxm hlt hw=>by
    unfold z8y
    rw [if_pos (by simpa using hlt)]
    simp only [hx,hy,Option.bind_eq_bind,Option.bind_some,hw]
    have:=zqc hxm
    exact Sn.bind (f:=_) ((hm x hxm y hq n).mono (by omega)) (.inl rfl)) (by unfold z8y;rw [if_neg (by simp)])) (.inl rfl)).up.mono (by omega)
theorem z0at:∀ (l:List z04),szEs (cEs l)≤400000000000→∀ x∈l,∀ y,QE (cE x) (cE y)→∀ n,Sn n (2*szE (cE x)) (z60 n x y) true
 | [],hz,x,h,y,hq,n=>by cases h
 | e::r,hz,x,h,y,hq,n=>by
  simp only [cEs,szEs] at hz
  rcases List.mem_cons.1 h with h|h
  ·rw [h] at hq;rw [h];exact sr_E e y hq (by omega) n
  ·exact z0at r (by omega) x h y hq n
end
theorem z03j {e e':z04} (hq:QE (cE e) (cE e')) (hz:szE (cE e)≤400000000000):zid (oneA e) (oneA e')=some true:=by
 have h1:zc5 e e'=some true:=Sn.unf fun n=>sr_E e e' hq hz n
 have h2:zgk [.mk 1 bX nB e zC [] [] []] [.mk 1 bX nB e' zC [] [] []]=some true:=Sn.unf (h:=1) fun n=>by
  cases n with
  | zero=>exact .inr ⟨rfl,by omega⟩
  | succ n =>
   refine .inl ?_
   simp only [z5i]
   rw [if_neg (by simp)]
   have s1:z7d (z5i n) [.mk 1 bX nB e zC [] [] []] [.mk 1 bX nB e' zC [] [] []] 0=some (.inl 1):=by
    unfold z7d
    rw [if_pos (by simp)]
    have i1:idx [z03.mk 1 bX nB e zC [] [] []] 0=some (z03.mk 1 bX nB e zC [] [] []):=rfl
    have i2:idx [z03.mk 1 bX nB e' zC [] [] []] 0=some (z03.mk 1 bX nB e' zC [] [] []):=rfl
    simp only [i1,i2,Option.bind_eq_bind,Option.bind_some]
    dsimp only [z03.Kind,z03.Name,z03.E]
    simp only [bne_self_eq_false,Bool.false_eq_true,if_false,beq_self_eq_true,if_true,h1,Option.bind_some,Bool.not_true]
    rfl
   have s2:z7d (z5i n) [.mk 1 bX nB e zC [] [] []] [.mk 1 bX nB e' zC [] [] []] 1=some (.inr (.inr ())):=by
    unfold z7d
    rw [if_neg (by simp)]
   rw [zce s1,z3i s2]
   rfl
 have h3:zae [] []=some true:=by
  unfold zae
  rw [if_neg (by simp),z3i (r:=.inr ()) (by unfold zaw;rw [if_neg (by simp)])]
  rfl
 unfold zid
 rw [if_neg (by simp [oneA]),if_neg (by simp [oneA])]
 have e1:iter (zeo (oneA e) (oneA e')) 0=some (.inr ()):=z3i (by unfold zeo;rw [if_neg (by simp [oneA])])
 have e2:iter (zep (oneA e) (oneA e')) 0=some (.inr ()):=z3i (by unfold zep;rw [if_neg (by simp [oneA])])
 have s1:z9w (oneA e) (oneA e') 0=some (.inl 1):=by
  unfold z9w
  rw [if_pos (by simp [oneA])]
  have i1:idx (oneA e).Procs 0=some ⟨bP,[],[.mk 1 bX nB e zC [] [] []]⟩:=rfl
  have i2:idx (oneA e').Procs 0=some ⟨bP,[],[.mk 1 bX nB e' zC [] [] []]⟩:=rfl
  simp only [i1,i2,Option.bind_eq_bind,Option.bind_some,beq_self_eq_true,Bool.not_true,Bool.false_eq_true,if_false,h3,h2]
  rfl
 have s2:z9w (oneA e) (oneA e') 1=some (.inr (.inr ())):=by
  unfold z9w
  rw [if_neg (by simp [oneA])]
 have e3:iter (z9w (oneA e) (oneA e')) 0=some (.inr ()):=by rw [zce s1,z3i s2]
 have e4:(((oneA e).Procs.length:Int) != ((oneA e').Procs.length:Int))=false:=rfl
 simp only [e4,Option.bind_eq_bind,Option.bind_some,Bool.false_eq_true,if_false,e1,e2,e3,Sum.elim_inr]
def rpX (o:ByteArray) (k:Nat):ByteArray:=⟨((List.replicate k o.data.toList).flatten).toArray⟩
theorem z00s (s o:ByteArray) (k:Nat):s++rpX o k++o=s++rpX o (k+1):=zme (by
 rw [zgn,zgn,zgn]
 show s.data.toList++(List.replicate k o.data.toList).flatten++o.data.toList=s.data.toList++(List.replicate (k+1) o.data.toList).flatten
 rw [List.replicate_succ',List.flatten_append,List.append_assoc]
 simp only [List.flatten_cons,List.flatten_nil,List.append_nil])
theorem z03k (o:ByteArray):∀ k,(rpX o k).size=k*o.size
 | 0=>by rw [Nat.zero_mul];rfl
 | k+1=>by
  have:=congrArg ByteArray.size (z00s (ByteArray.mk #[]) o k)
  simp only [ByteArray.size_append] at this
  rw [z03k o k] at this
  have e:(ByteArray.mk #[]).size=0:=rfl
  rw [Nat.succ_mul];omega
theorem z0au {body:ByteArray × Int→Option (Sum (ByteArray × Int) (Sum Bool ByteArray))} {o:ByteArray} {k:Nat} (s:ByteArray) (hb:∀ (t:ByteArray) (i:Nat),i<k→t.size≤s.size+k*o.size→body (t,(i:Int))=some (.inl (t++o,((i+1:Nat):Int))))
  (he:∀ t,body (t,(k:Int))=some (.inr (.inr t))):iter body (s,0)=some (.inr (s++rpX o k)):=by
 have h:∀ d i,k - i=d→i≤k→iter body (s++rpX o i,(i:Int))=some (.inr (s++rpX o k)):=by
  intro d
  induction d with
  | zero =>
   intro i hd hi
   have:i=k:=by omega
   subst this
   exact z3i (he _)
  | succ d ih =>
   intro i hd hi
   have hle:i*o.size≤k*o.size:=Nat.mul_le_mul_right _ hi
   rw [zce (hb _ i (by omega) (by simp only [ByteArray.size_append,z03k];omega)),z00s]
   exact ih (i+1) (by omega) (by omega)
 have:=h k 0 (by omega) (Nat.zero_le _)
 rwa [show s++rpX o 0=s from zme (by rw [zgn];show s.data.toList++[]=_;exact List.append_nil _)] at this
abbrev bL:ByteArray:=ByteArray.mk #[40]
abbrev bR:ByteArray:=ByteArray.mk #[41]
theorem z00t (o:ByteArray) (x:Bs):∀ (k:Nat) (l:List (ByteArray × Bs)),txt (List.replicate k (o,x)++l)=(List.replicate k (o.data.toList++x)).flatten++txt l
 | 0,l=>rfl
 | k+1,l=>by simp only [List.replicate_succ,List.cons_append,txt,z00t o x k l,List.flatten_cons,List.append_assoc]
theorem z03l {ws:List ByteArray} {e:Int} (hl:ws.length≤2000):∀ (m:List ByteArray) (k:Nat) (s:ByteArray),ws.drop k=m++[z00p,zsi]→k+m.length+2=ws.length→(∀ x∈m,x.size≤24)→s.size≤100+25*k →
  ∃ t,iter (z66 (ws,e)) (s,(k:Int))=some (.inr t)∧t.size≤51000∧t.data.toList=s.data.toList++txt (m.map fun w=>(w,[32])):=by
 intro m
 have hw:IntKind.i64.wrap ((ws.length:Int) - 2)=(ws.length:Int) - 2:=w64 (by omega) (by omega)
 induction m with
 | nil =>
  intro k s hd hk hm hs
  simp only [List.length_nil] at hk
  refine ⟨s,z3i ?_,by omega,by simp [txt]⟩
  unfold z66
  rw [if_neg (by show ¬ (decide ((k:Int)<IntKind.i64.wrap ((ws.length:Int) - 2))=true);rw [hw];simp;omega)]
 | cons v m ih =>
  intro k s hd hk hm hs
  simp only [List.length_cons] at hk
  have hlt:k<ws.length:=by omega
  rw [List.drop_eq_getElem_cons hlt,List.cons_append] at hd
  injection hd with hd1 hd2
  have hi:idx ws (k:Int)=some v:=by rw [zgs hlt,hd1]
  have hz:v.size≤24:=hm v (by simp)
  have hb:(ByteArray.mk #[32]).size=1:=rfl
  have c1:scat s v=some (s++v):=znr (by omega)
  have c2:scat (s++v) (ByteArray.mk #[32])=some (s++v++ByteArray.mk #[32]):=znr (by simp only [ByteArray.size_append,hb];omega)
  have step:z66 (ws,e) (s,(k:Int))=some (.inl (s++v++ByteArray.mk #[32],((k+1:Nat):Int))):=by
   unfold z66
   rw [if_pos (by show decide ((k:Int)<IntKind.i64.wrap ((ws.length:Int) - 2))=true;rw [hw];simp;omega)]
   simp only [hi,c1,c2,Option.bind_eq_bind,Option.bind_some,zfz (i:=k) (by omega)]
  obtain ⟨t,h1,h2,h3⟩:=ih (k+1) (s++v++ByteArray.mk #[32]) hd2 (by omega) (fun x hx=>hm x (by simp [hx])) (by simp only [ByteArray.size_append,hb];omega)
  exact ⟨t,by rw [zce step];exact h1,h2,by rw [h3];simp [txt]⟩
theorem z00u {w:ByteArray} {x:W} (h:oneW w.data.toList x) (hk:x.kind≠3):w.data.toList.head?≠some 61:=by
 intro h61
 obtain ⟨h1,_⟩:=h
 cases hv:w.data.toList with
 | nil=>rw [hv] at h1;cases h1
 | cons b r =>
  rw [hv] at h1 h61
  have h61:some b=some (61:UInt8):=h61
  injection h61 with h61
  subst h61
  rw [zcy,if_neg (by decide),if_neg (by decide)] at h1
  split at h1
  ·cases h1
  ·injection h1 with h1;subst h1;exact hk rfl
theorem zwb:∀ (e:z06) (p:Int),(sE e p).bad=false→∃ w r,(sE e p).ws=w::r∧w.data.toList.head?≠some 61
 | ⟨k,n,s,[]⟩,p,h=>by
  simp only [sE] at h ⊢
  unfold zdo at h ⊢
  simp only [Wr.bad_app,Bool.or_eq_false_iff] at h
  split at h
  ·rename_i hk
   rw [if_pos hk]
   have h0:zb9 n=true:=by simpa [wI] using h.2
   exact ⟨zfy n,[],rfl,z00u (zmb h0).1 (by show (2:Int)≠3;decide)⟩
  ·rename_i hk
   rw [if_neg hk]
   simp only [Wr.bad_app,Bool.or_eq_false_iff] at h
   have h0:z3s s=true:=by simpa [wN] using h.2.2
   obtain ⟨x,h1,h2,_⟩:=zq4 h0
   exact ⟨s,[],rfl,z00u h1 (by rw [h2];decide)⟩
 | ⟨k,n,s,[x]⟩,p,h=>by
  simp only [sE] at h ⊢
  split at h
  ·rename_i hk
   rw [if_pos hk]
   exact ⟨ByteArray.mk #[45],_,rfl,by decide⟩
  ·cases (zgm h).1
 | ⟨k,n,s,[l,r]⟩,p,h=>by
  simp only [sE] at h ⊢
  split at h
  ·rename_i hk
   rw [if_pos hk]
   simp only [Wr.bad_app,Bool.or_eq_false_iff] at h
   have h1:=h.1
   cases hm:(!sumK k&&sumK l.Kind) with
   | true =>
    rw [hm] at h1
    exact ⟨ByteArray.mk #[40],_,rfl,by decide⟩
   | false =>
    rw [hm] at h1
    have h1:(sE l p).bad=false:=h1
    obtain ⟨w,q,h2,h3⟩:=zwb l p h1
    refine ⟨w,q++(Wri.wW [znn k]++inP (sumK r.Kind || !sumK k&&z88 r.Kind) (sE r) p).ws,?_,h3⟩
    show (sE l p).ws++_=_
    rw [h2]
    rfl
  ·cases (zgm h).1
 | ⟨k,n,s,a::b::c::l⟩,p,h=>by
  simp only [sE] at h
  cases (zgm h).1
theorem z05k {l:List (ByteArray × Bs)} (hl:Ch l):∀ ws:List ByteArray,(∀ w∈ws,oneS w=true)→Ch ((ws.map fun w=>(w,[32]))++l)
 | [],_=>hl
 | w::ws,h=>⟨h w (by simp),(by decide:[32].all isB=true),z9z (by decide),z05k hl ws fun x hx=>h x (by simp [hx])⟩
theorem z00v {o:ByteArray} (ho:oneS o=true) (hA:o.data.toList.head?.map isA=some false) (h61:o.data.toList.head?≠some 61) {l:List (ByteArray × Bs)} (hl:Ch l) (hh:(txt l).head?≠some 61):∀ k,Ch (List.replicate k (o,[])++l)∧(txt (List.replicate k (o,[])++l)).head?≠some 61
 | 0=>⟨hl,hh⟩
 | k+1=>by
  obtain ⟨i1,i2⟩:=z00v ho hA h61 hl hh k
  rw [List.replicate_succ,List.cons_append]
  refine ⟨⟨ho,rfl,⟨fun h=>?_,fun _ b hb=>?_⟩,i1⟩,?_⟩
  ·dsimp only at h;rw [hA] at h;cases h
  ·intro e;subst e;exact i2 (by simpa using hb)
  ·simp only [txt]
   cases hv:o.data.toList with
   | nil=>rw [hv] at hA;cases hA
   | cons b r=>rw [hv] at h61;simpa using h61
def exT (ws:List ByteArray) (k:Nat):List (ByteArray × Bs):=lb++(List.replicate k (bL,[])++((ws.map fun w=>(w,[32]))++(List.replicate k (bR,[])++[(z00p,[32]),(zsi,[])])))
theorem z0d1 {ws:List ByteArray} (h:∀ w∈ws,oneS w=true) (hf:∃ w r,ws=w::r∧w.data.toList.head?≠some 61) (k:Nat):Ch (exT ws k):=by
 have c0:=z00v (o:=bR) (by decide) (by decide) (by decide) (z0ao []) (by decide) k
 have c1:=z05k c0.1 ws h
 have h1:(txt ((ws.map fun w=>(w,[32]))++(List.replicate k (bR,[])++lw []))).head?≠some 61:=by
  obtain ⟨w,r,e,h61⟩:=hf
  obtain ⟨x,⟨hx,_⟩,_⟩:=z00e (h w (by rw [e];simp))
  rw [e]
  simp only [List.map_cons,List.cons_append,txt]
  cases hv:w.data.toList with
  | nil=>rw [hv] at hx;cases hx
  | cons b q=>rw [hv] at h61;simpa using h61
 have c2:=z00v (o:=bL) (by decide) (by decide) (by decide) c1 h1 k
 exact ⟨by decide,by decide,z9z (by decide),by decide,by decide,z9z (by decide),by decide,by decide,z9z (by decide),by decide,by decide,z9z (by decide),by decide,by decide,z9z (by decide),c2.1⟩
theorem z00w {o:ByteArray}:∀ k,(List.replicate k ((o,[]):ByteArray × Bs)).map Prod.fst=List.replicate k o
 | 0=>rfl
 | k+1=>by simp only [List.replicate_succ,List.map_cons,z00w k]
theorem z07q {e:z06} (hb:(sE e 0).bad=false) (hn:(sE e 0).ws.length≤400) {k:Nat} (hk:k≤30) {t:ByteArray} (ht:t.data.toList=txt (exT (sE e 0).ws k)):gAll t=(oneA (bkE e),0,0)∨∃ p,gAll t=(emp,p,6):=by
 have how:∀ w∈(sE e 0).ws,oneS w=true:=ow_E e 0 hb
 obtain ⟨h1,h2⟩:=z00k (exT (sE e 0).ws k) 0 (z0d1 how (zwb e 0 hb) k)
 have h3:=h2.len
 have hf:((sE e 0).ws.map fun w=>((w,[32]):ByteArray × Bs)).map Prod.fst=(sE e 0).ws:=by rw [List.map_map];exact List.map_id'' (fun _=>rfl) _
 unfold exT at h2 h3
 simp only [List.map_append,z00w,hf,List.length_append,List.length_replicate] at h2 h3
 have hlb:(lb.map Prod.fst).length=5:=rfl
 rw [hlb] at h3
 simp only [List.map_cons,List.map_nil,List.length_cons,List.length_nil] at h3
 obtain ⟨m1,q1,h4⟩:=h2.app
 obtain ⟨m2,q2,h5⟩:=h4.app
 obtain ⟨m3,q3,h6⟩:=h5.app
 obtain ⟨m4,q4,t2,_,rfl,s2,t3,_,rfl,s3,h8⟩:=h6.app
 have h8:_=[]:=h8
 subst h8
 have hE:=z05j (L:=(t.size:Int)) hb k 0 m1 m2 m3 [t2,t3] (by omega) q2 q3 q4 (by rw [s2.which (by decide)];decide) (by rw [s2.which (by decide)];decide)
 unfold gAll
 rw [ht]
 unfold exT told
 unfold exT at h1
 rw [h1]
 simp only
 rw [if_neg (by omega)]
 unfold fin
 simp only [bne_self_eq_false,Bool.false_eq_true,if_false]
 rcases hE with hE|⟨p,hE⟩
 ·rw [z07k (L:=(t.size:Int)) q1 s2 s3 hE.eX]
  exact .inl rfl
 ·rw [z03i (L:=(t.size:Int)) q1 hE.eX]
  exact .inr ⟨p,rfl⟩
theorem z0av {a0:z04} (h:okE (cE a0)):zye (cSys (oneA a0)):=by
 have hz:okE (cE zE):=by simp only [zE,cE,cEs,okE,okEs,in64,and_true];exact ⟨by omega,by decide⟩
 refine ⟨fun c hc=>by simp [cSys,oneA] at hc,fun c hc=>by simp [cSys,oneA] at hc,fun c hc=>?_⟩
 have:c=cPr ⟨bP,[],[.mk 1 bX nB a0 zC [] [] []]⟩:=by simpa [cSys,oneA] using hc
 subst this
 refine ⟨by show bP.size≤4194304;decide,fun v hv=>by simp [cPr] at hv,?_⟩
 show Wri.okL (cL [.mk 1 bX nB a0 zC [] [] []])
 simp only [cL,Wri.okL,and_true]
 simp only [cS,Wri.okS,cL,Wri.okL,cA,Wri.okA,and_true]
 exact ⟨by decide,by decide,h,hz,hz⟩
theorem z0aw (a0:z04):zba (cSys (oneA a0))=szE (cE a0)+13∨zba (cSys (oneA a0))≤szE (cE a0)+40:=by
 right
 have hz:szE (cE zE)=1:=by simp [zE,cE,cEs,szE,szEs]
 simp only [cSys,oneA,zba,List.map_cons,List.map_nil,sumN,szP,cPr,cL,cS,cA,szL,szS,szA,szC,cC,zC,hz,List.length_nil]
 omega
theorem z0ax (a0:z04):(Wri.sSys (cSys (oneA a0))).ws=[z03d,bP,z03e,bX,bEq]++((sE (cE a0) 0).ws++[z00p,zsi]):=by
 simp only [Wri.sSys,cSys,oneA,List.map_cons,List.map_nil,zbb,Wr.ws_app,sP,cPr,cL,cS,sL,sS,beq_self_eq_true,if_true,Wri.wW,wN,Wr.nil,List.nil_append,List.cons_append,List.append_nil,List.append_assoc]
theorem z07r {a0:z04} (h:(Wri.sSys (cSys (oneA a0))).bad=false):(sE (cE a0) 0).bad=false:=by
 simp only [Wri.sSys,cSys,oneA,List.map_cons,List.map_nil,zbb,Wr.bad_app,sP,cPr,cL,cS,sL,sS,beq_self_eq_true,if_true,Bool.or_eq_false_iff] at h
 simp only [h,and_self]
theorem z0d2 {x:Wr} (h:(endW x).2=0):x.bad=false∧x.ws.length≤2000∧endW x=(x.ws,0):=by
 unfold endW at *
 split at h
 ·cases h
 ·split at h
  ·cases h
  ·split at h
   ·cases h
   ·rename_i h1 h2 h3
    exact ⟨by simpa using h1,by omega,by rw [if_neg h1,if_neg h2,if_neg h3]⟩
theorem law_ParseExprs {a0:z04} (ho:okE (cE a0)) (hs:szE (cE a0)≤200000000000) (a1:Int):zar a0 a1=some true:=by
 have hz:zba (cSys (oneA a0))≤400000000000:=by rcases z0aw a0 with h|h <;> omega
 have hw:zej (oneA a0)=_:=z07s (z0av ho) hz
 have hcv:zcv (oneA a0)=_:=z0ay hz
 show zar a0 a1=some true
 unfold zar
 have hr:rem (IntKind.u64.wrap a1) 30=some ((IntKind.u64.wrap a1).tmod 30):=by unfold rem;rw [if_neg (by decide)]
 have hu:0≤IntKind.u64.wrap a1:=by simp [IntKind.wrap,IntKind.signed,IntKind.bits];omega
 have hv:∃ k:Nat,(IntKind.u64.wrap a1).tmod 30=(k:Int)∧k<30:=⟨((IntKind.u64.wrap a1).tmod 30).toNat,by rw [Int.tmod_eq_emod_of_nonneg hu];omega,by rw [Int.tmod_eq_emod_of_nonneg hu];omega⟩
 obtain ⟨k,hk,hk30⟩:=hv
 rw [hr,hk]
 have hkw:IntKind.i64.wrap (k:Int)=(k:Int):=w64 (by omega) (by omega)
 simp only [Option.bind_eq_bind,Option.bind_some]
 rw [show zej (z0i.mk [] [] [(z31.mk (ByteArray.mk #[112]) [] [(z03.mk 1 (ByteArray.mk #[120]) (ByteArray.mk #[]) a0 (z1k.mk 0 (z04.mk 0 0 (ByteArray.mk #[]) []) (z04.mk 0 0 (ByteArray.mk #[]) [])) [] [] [])])])=_ from hw,z03m]
 simp only [Option.bind_some,Bool.not_true,Bool.false_eq_true,if_false]
 by_cases he:(endW (Wri.sSys (cSys (oneA a0)))).2=0
 ·obtain ⟨h1,h3,h4⟩:=z0d2 he
  rw [h4]
  have h0:((0:Int) != 0)=false:=rfl
  simp only [h0,Bool.false_eq_true,if_false,Option.bind_some]
  by_cases hlen:((Wri.sSys (cSys (oneA a0))).ws.length:Int) > 400
  ·simp only [decide_eq_true hlen,if_true]
  ·simp only [decide_eq_false hlen,Bool.false_eq_true,if_false]
   have hbad:=z07r h1
   have hws:=z0ax a0
   have hle:(Wri.sSys (cSys (oneA a0))).ws.length≤400:=by omega
   rw [hws] at hle
   simp only [List.length_append,List.length_cons,List.length_nil] at hle
   have hsh:∀ w∈(sE (cE a0) 0).ws,w.size≤24:=sh_E (cE a0) 0 hbad
   have e1:bL.size=1:=rfl
   have e2:bR.size=1:=rfl
   have l2:=z0au (body:=z7w (k:Int)) (o:=bL) (k:=k) (ByteArray.mk #[112,114,111,99,32,112,32,123,32,120,32,61,32]) (fun t i hi ht=>by
    have ht:t.size≤13+k*1:=ht
    unfold z7w
    rw [if_pos (by show decide ((i:Int)<IntKind.i64.wrap (k:Int))=true;rw [hkw];simp;omega)]
    have c:scat t bL=some (t++bL):=znr (by omega)
    simp only [c,Option.bind_eq_bind,Option.bind_some,zfz (i:=i) (by omega)]) (fun t=>by
    unfold z7w
    rw [if_neg (by show ¬ (decide ((k:Int)<IntKind.i64.wrap (k:Int))=true);rw [hkw];simp)])
   rw [l2]
   simp only [Option.bind_some,Sum.elim_inr]
   have z2:((ByteArray.mk #[112,114,111,99,32,112,32,123,32,120,32,61,32])++rpX bL k).size=13+k:=by rw [ByteArray.size_append,z03k,e1];show 13+k*1=_;omega
   obtain ⟨t3,i3,s3,x3⟩:=z03l (ws:=(Wri.sSys (cSys (oneA a0))).ws) (e:=0) h3 (sE (cE a0) 0).ws 5 ((ByteArray.mk #[112,114,111,99,32,112,32,123,32,120,32,61,32])++rpX bL k) (by rw [hws];rfl) (by rw [hws];simp only [List.length_append,List.length_cons,List.length_nil];omega) hsh (by omega)
   have i3:iter (z66 ((Wri.sSys (cSys (oneA a0))).ws,0)) ((ByteArray.mk #[112,114,111,99,32,112,32,123,32,120,32,61,32])++rpX bL k,5)=_:=i3
   rw [i3]
   simp only [Option.bind_some,Sum.elim_inr]
   have l4:=z0au (body:=z7x (k:Int)) (o:=bR) (k:=k) t3 (fun t i hi ht=>by
    have ht:t.size≤t3.size+k*1:=ht
    unfold z7x
    rw [if_pos (by show decide ((i:Int)<IntKind.i64.wrap (k:Int))=true;rw [hkw];simp;omega)]
    have c:scat t bR=some (t++bR):=znr (by omega)
    simp only [c,Option.bind_eq_bind,Option.bind_some,zfz (i:=i) (by omega)]) (fun t=>by
    unfold z7x
    rw [if_neg (by show ¬ (decide ((k:Int)<IntKind.i64.wrap (k:Int))=true);rw [hkw];simp)])
   rw [l4]
   simp only [Option.bind_some,Sum.elim_inr]
   have z4:(t3++rpX bR k).size=t3.size+k:=by rw [ByteArray.size_append,z03k,e2];omega
   have e5:(ByteArray.mk #[59,32,125]).size=3:=rfl
   have c5:scat (t3++rpX bR k) (ByteArray.mk #[59,32,125])=some (t3++rpX bR k++ByteArray.mk #[59,32,125]):=znr (by omega)
   rw [c5]
   simp only [Option.bind_some]
   have hT:(t3++rpX bR k++ByteArray.mk #[59,32,125]).data.toList=txt (exT (sE (cE a0) 0).ws k):=by
    unfold exT
    rw [zgn,zgn,x3,zgn,zug,z00t,zug,z00t]
    simp only [rpX,List.append_nil,List.append_assoc]
    rfl
   have hsz:(t3++rpX bR k++ByteArray.mk #[59,32,125]).size≤4194304:=by rw [ByteArray.size_append,z4,e5];omega
   generalize t3++rpX bR k++ByteArray.mk #[59,32,125]=T at hT hsz
   rw [zuk hsz,z07t hsz]
   have hg:=z07q hbad (by omega) (k:=k) (by omega) hT
   have hszA:=z07u T
   simp only [Option.bind_some,bne_self_eq_false,Bool.false_eq_true,if_false]
   rcases hg with hg|⟨p,hg⟩
   ·rw [hg] at hszA ⊢
    simp only at hszA
    obtain ⟨r1,r2,r3,_⟩:=z07j h1
    have hbk:zoo (cSys (oneA a0))=oneA (bkE (cE a0)):=by simp only [zoo,cSys,oneA,List.map_cons,List.map_nil,bkPr,cPr,cL,cS,bkL,bkS,beq_self_eq_true,if_true]
    rw [hbk] at r1 r2 r3
    have hsame:=z0am (s:=cSys (oneA (bkE (cE a0)))) (s':=cSys (oneA a0)) (by omega) r1 r2 r3
    have hq:=(zsh (cE a0) 0 hbad).1
    have hsz2:szE (cE (bkE (cE a0)))≤400000000000:=by
     have:szE (cE (bkE (cE a0)))≤zba (cSys (oneA (bkE (cE a0)))):=by
      simp only [cSys,oneA,zba,List.map_cons,List.map_nil,sumN,szP,cPr,cL,cS,cA,szL,szS,szA]
      omega
     omega
    have hsr:=z03j hq hsz2
    have h06:((0:Int)==6)=false:=rfl
    simp only [h06,Bool.false_eq_true,if_false,beq_self_eq_true,if_true]
    rw [show zcv (z0i.mk [] [] [(z31.mk (ByteArray.mk #[112]) [] [(z03.mk 1 (ByteArray.mk #[120]) (ByteArray.mk #[]) a0 (z1k.mk 0 (z04.mk 0 0 (ByteArray.mk #[]) []) (z04.mk 0 0 (ByteArray.mk #[]) [])) [] [] [])])])=_ from hcv]
    simp only [Option.bind_some,hsame,if_true]
    rw [show zid (oneA (bkE (cE a0))) (z0i.mk [] [] [(z31.mk (ByteArray.mk #[112]) [] [(z03.mk 1 (ByteArray.mk #[120]) (ByteArray.mk #[]) a0 (z1k.mk 0 (z04.mk 0 0 (ByteArray.mk #[]) []) (z04.mk 0 0 (ByteArray.mk #[]) [])) [] [] [])])])=_ from hsr]
    simp only [Option.bind_some]
   ·rw [hg]
    simp only [beq_self_eq_true,if_true]
 ·have he':((endW (Wri.sSys (cSys (oneA a0)))).2 != 0)=true:=by simpa using he
  simp only [he',if_true,Option.bind_some]
end Go.Proofs.YtokjbpmjdcbogaaGreatDoor.Abs.Par
namespace Go.Proofs.YtokjbpmjdcbogaaGreatDoor.Abs.Wri
open Go Go.RowKit
set_option linter.unusedVariables false
set_option linter.unusedSimpArgs false
theorem z07v {n:Int} (h:InK .i64 n):in64 n:=by
 have h1:=h.lo
 have h2:=h.hi
 simp [IntKind.min,IntKind.max,IntKind.signed,IntKind.bits] at h1 h2
 exact ⟨by omega,by omega⟩
mutual
def mE:z04→Nat
 | ⟨_,_,s,l⟩=>s.size+mEs l+4
def mEs:List z04→Nat
 | []=>0
 | e::r=>mE e+mEs r
end
mutual
def rgE:z04→Prop
 | ⟨_,n,_,l⟩=>in64 n∧rgEs l
def rgEs:List z04→Prop
 | []=>True
 | e::r=>rgE e∧rgEs r
end
theorem z00x:∀ l,mEs l=sumM mE l
 | []=>rfl
 | e::r=>by simp only [mEs,sumM,z00x r]
theorem z00y:∀ {l:List z04},(∀ x∈l,rgE x)→rgEs l
 | [],_=>trivial
 | e::r,h=>⟨h e List.mem_cons_self,z00y fun x hx=>h x (List.mem_cons_of_mem _ hx)⟩
mutual
theorem okE_of:∀ (e:z04),rgE e→mE e≤4194304→okE (cE e)∧szE (cE e)≤mE e
 | ⟨k,n,s,l⟩,h,hm=>by
  simp only [rgE] at h
  simp only [mE] at hm ⊢
  have:=z00z l h.2 (by omega)
  simp only [cE,okE,szE]
  exact ⟨⟨h.1,by omega,this.1⟩,by omega⟩
theorem z00z:∀ (l:List z04),rgEs l→mEs l≤4194304→okEs (cEs l)∧szEs (cEs l)≤mEs l
 | [],_,_=>⟨trivial,Nat.le_refl _⟩
 | e::r,h,hm=>by
  simp only [rgEs] at h
  simp only [mEs] at hm ⊢
  have h1:=okE_of e h.1 (by omega)
  have h2:=z00z r h.2 (by omega)
  simp only [cEs,okEs,szEs]
  exact ⟨⟨h1.1,h2.1⟩,by omega⟩
end
section
variable {H:Type} {enc:TypeId × Value→H} {w:World}
theorem z07w {T E:TypeId} {τ:Type} {e:τ→List PV} {ok:τ→Prop} {m:τ→Nat} {sz:Nat} {P:Program} (hu:P.underlying T=some (.slice E)) (hsz:P.cellsOf E=sz) (hpos:0<sz) (hlen:∀ x,(e x).length=sz) {fuel:Nat} (hE:∀ f,f<fuel→DecB P enc w f E e ok m) :
  DecB P enc w fuel T (fun l:List τ=>[.sl (l.map e)]) (fun l=>(∀ x∈l,ok x)∧l.length≤maxLen) (fun l=>sumM m l+1):=by
 cases fuel with
 | zero=>exact z09p
 | succ f=>exact zx5 hu hsz hpos hlen (hE f (Nat.lt_succ_self f))
theorem decB_E:∀ fuel,DecB Tryz.prog enc w fuel 43 z1l rgE mE:=by
 intro fuel
 induction fuel using Nat.strongRecOn with
 | _ fuel ih =>
  cases fuel with
  | zero=>exact z09p
  | succ f =>
   refine zt2 (N:=4) (fun x:Int × Int × ByteArray × List z04 × Unit=>z04.mk x.1 x.2.1 x.2.2.1 x.2.2.2.1) Tryz.underlying43 (by kernel_rfl)
    (zk4 (sz:=1) rfl (by kernel_rfl) (zpq Tryz.underlying3 f) (zk4 (sz:=1) rfl (by kernel_rfl) (zpq Tryz.underlying3 f) (zk4 (sz:=1) rfl (by kernel_rfl) (z02e Tryz.underlying9 f)
     (zk4 (sz:=1) rfl (by kernel_rfl) (z07w Tryz.underlying41 (by kernel_rfl) (by decide) zo3 fun g hg=>ih g (by omega)) (z02f (by decide))))))
    (fun x=>by rw [z26];rfl) (fun x h=>⟨z07v h.2.1,z00y h.2.2.2.1.1⟩) (fun x=>?_)
   show x.2.2.1.size+mEs x.2.2.2.1+4≤1+(1+(x.2.2.1.size+1+(sumM mE x.2.2.2.1+1+0)))+1
   rw [z00x];omega
end
end Go.Proofs.YtokjbpmjdcbogaaGreatDoor.Abs.Wri

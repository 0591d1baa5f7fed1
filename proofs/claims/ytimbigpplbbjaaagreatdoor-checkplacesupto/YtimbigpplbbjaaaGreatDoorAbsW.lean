/- Plain laws for the typed functions: numbers in their range, strings by lists, loops. -/
import Derived.Test.YtimbigpplbbjaaaGreatDoorAbsT
import Derived.Laws.Bits64
import Derived.Laws.BitsLemmas
import Derived.RowKit3
import Derived.Carry
import Derived.Lib.LaidTab
import Derived.ChangeArms
import Derived.OpenShut
import Derived.WideShapes
namespace Go.Proofs.YtimbigpplbbjaaaGreatDoor.Abs
open Go Go.RowKit
set_option linter.unusedVariables false
set_option linter.unusedSimpArgs false
theorem w64 {n:Int} (h0:-9223372036854775808≤n) (h1:n≤9223372036854775807):IntKind.i64.wrap n=n:=by rw [IntKind.wrap_i64];omega
theorem sb {α β:Type} (x:α) (f:α→Option β):(some x>>=f)=f x:=rfl
section
variable {P:Program} {H:Type} {enc:TypeId × Value→H} {w:World}
def Old (w:World):Nat→Prop:=fun k=>k<w.heap.size
def Dec (P:Program) (enc:TypeId × Value→H) (w:World) (fuel:Nat) (T:TypeId) {τ:Type} (e:τ→List PV) (ok:τ→Prop):Prop :=
 ∀ cs d ps,DataW.trod enc P w 0 (fun _=>true) true fuel T cs=some (d,ps)→∃ x:τ,ok x∧L2 (Rd w (Old w)) (e x) cs
structure InK (k:IntKind) (n:Int):Prop where
 lo:k.min≤n
 hi:n≤k.max
theorem z04n {T:TypeId} {k:IntKind} (hu:P.underlying T=some (.int k)) (fuel:Nat):Dec P enc w fuel T (fun n:Int=>[.int k n]) (InK k):=by
 intro cs d ps h
 obtain ⟨n,rfl,_,hw⟩:=DataW.trod_int hu h
 simp only [Lit.wf,Bool.and_eq_true,decide_eq_true_eq] at hw
 exact ⟨n,⟨hw.1,hw.2⟩,L2.cons (.int _ _) L2.nil⟩
theorem z01i {α β:Type} {f:α→Option β} {l:List α} {r:List β} (h:l.mapM f=some r):r.length=l.length∧∀ (i:Nat) (a:α),l[i]?=some a→∃ b,r[i]?=some b∧f a=some b :=
 ⟨Lib.mapM_length h,fun i a ha=>Lib.mapM_at h i a ha⟩
theorem zsk {τ:Type} {n:Nat} {p:Nat→τ→Prop} (h:∀ i,i<n→∃ x,p i x):∃ xs:List τ,xs.length=n∧∀ i x,xs[i]?=some x→p i x:=by
 induction n with
 | zero=>exact ⟨[],rfl,fun i x hx=>by simp at hx⟩
 | succ n ih =>
  obtain ⟨xs,h1,h2⟩:=ih fun i hi=>h i (by omega)
  obtain ⟨y,hy⟩:=h n (by omega)
  refine ⟨xs++[y],by simp [h1],fun i x hx=>?_⟩
  rw [List.getElem?_append] at hx
  split at hx
  ·exact h2 i x hx
  ·rename_i hlt
   cases hk:i - xs.length with
   | zero =>
    rw [hk] at hx
    simp at hx
    subst hx
    have:i=n:=by omega
    subst this;exact hy
   | succ k=>rw [hk] at hx;simp at hx
theorem zxx {a:Addr} {n:Nat} {cs:List Value} (h:w.cells? 0 a n=some cs):cs.length=n∧∀ (i:Nat) (v:Value),cs[i]?=some v→w.cell? (a.add i)=some v:=by
 unfold World.cells? at h
 rw [if_pos (Nat.zero_le _)] at h
 obtain ⟨h1,h2⟩:=z01i h
 rw [List.length_range] at h1
 refine ⟨h1,fun i v hv=>?_⟩
 have hi:i<n:=by rw [← h1];exact (List.getElem?_eq_some_iff.1 hv).1
 obtain ⟨b,hb,hc⟩:=h2 i i (by rw [List.getElem?_range hi])
 rw [hv] at hb;injection hb with hb;subst hb;exact hc
theorem cell_spot {a:Addr} {v:Value} (h:w.cell? a=some v):a.spot=none∧a.block<w.heap.size:=by
 unfold World.cell? at h
 split at h
 ·rename_i c T fz hb
  split at h
  ·cases h
  ·rename_i hs
   exact ⟨by simpa using hs,(Array.getElem?_eq_some_iff.1 hb).1⟩
 ·cases h
theorem addr_add (bk of i j:Nat):((⟨bk,of,none⟩:Addr).add i).add j=⟨bk,of+(i+j),none⟩:=by
 by_cases h1:i=0 <;> by_cases h2:j=0 <;> simp [Addr.add,h1,h2,Nat.add_assoc]
theorem z07o {xs:List PV} {v:Value} {J:Nat→Prop} {η:Hd} (h:L2 (Rd w J) xs v.cells.toList) (h2:2≤xs.length):XVr η J w (.agg (bs xs)) v:=by
 cases v with
 | agg cs =>
  refine ⟨cs.toList,by simp,?_,fun i x y hx hy=>?_⟩
  ·have:=h.len;simpa [bs,Value.cells] using this
  ·unfold bs at hx
   rw [List.getElem?_map] at hx
   cases hi:xs[i]? with
   | none=>rw [hi] at hx;cases hx
   | some p=>rw [hi] at hx;injection hx with hx;subst hx;exact h.at_ i p y hi (by simpa [Value.cells] using hy)
 | _=>have:=h.len;simp [Value.cells] at this;omega
theorem z01j {G:Nat→Option (List PV)} {f:FuncId} {args res:List XV} {vs:List Value} (h:znj P G f args res) (hG:Glob G (Old w) w) (hl:L2 (XVr ⟨fun _=>undef,fun _=>False,fun _=>[]⟩ (Old w) w) args vs) :
  Calls P f vs.toArray w fun e w'=>∃ v,e=.returned v∧(∃ η J,Rs η J w' res v)∧Below w.heap.size w w':=by
 have hok:Ok G ⟨fun _=>undef,fun _=>False,fun _=>[]⟩ (Old w) w []:=⟨fun b hb=>hb.elim,fun b hb=>hb,fun b o ho=>by simp at ho,fun b c o o' k ho=>by simp at ho,fun b o k ho=>by simp at ho,hG⟩
 refine (h _ _ w vs hok hl).mono ?_
 rintro e w' ⟨v,η',J',r,st',rfl,⟨rfl,hp,rfl⟩,hR,hok',hex⟩
 exact ⟨v,rfl,⟨η',J',hR⟩,hex.os,hex.tape,hex.output,hex.size,fun k hk=>hex.keep k hk zp0⟩
theorem zwe {G:Nat→Option (List PV)} {f:FuncId} {args:List XV} {vs:List Value} (h:znj P G f args [.c (.pv (.bool true))]) (hG:Glob G (Old w) w) (hl:L2 (XVr ⟨fun _=>undef,fun _=>False,fun _=>[]⟩ (Old w) w) args vs) :
  Calls P f vs.toArray w fun e w'=>e=.returned (.bool true)∧Below w.heap.size w w' :=
 (z01j h hG hl).mono fun e w' ⟨v,he,⟨η,J,hr⟩,hb⟩=>⟨by rw [he,zgr hr],hb⟩
end
section
variable {P:Program} {H:Type} {enc:TypeId × Value→H} {w:World}
end
end Go.Proofs.YtimbigpplbbjaaaGreatDoor.Abs

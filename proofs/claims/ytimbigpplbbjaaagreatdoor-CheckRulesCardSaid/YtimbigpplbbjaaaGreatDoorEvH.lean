/- The evaluator: a region whose order tells something. -/
import Derived.Test.YtimbigpplbbjaaaGreatDoorTrG
namespace Go.Proofs.YtimbigpplbbjaaaGreatDoor.Abs
open Go Go.RowKit
set_option linter.unusedVariables false
set_option linter.unusedSimpArgs false
section
variable {P:Program} {G:Nat→Option (List PV)} {tb:Tb} {tc:Tc} {ops:Array Oper}
def AnyT (P:Program) (G:Nat→Option (List PV)) (ops:Array Oper) (fuel:Nat) (lst:Array Bool) (s:Sx) (K:Sx→Prop):Prop :=
 ∀ E η J a w,Rel G E η J s a w→∀ (Q':Exit→Act→World→Prop),(∀ a' w' η' J' s',K s'→Rel G E η' J' s' a' w'→Q' .normal a' w')→wpAny P .any ops Q' fuel lst a w
def step1 (P:Program) (tb:Tb) (tc:Tc) (G:Nat→Option (List PV)) (ops:Array Oper) (s:Sx) (i:Nat):Option Sx:=match ops[i]? with
 | some o=>match o.guard with
  | none=>match z01g P tb tc G s o [] with
   | some ([],s',[])=>some s'
   | _=>none
  | some _=>none
 | none=>none
def zz1 (P:Program) (tb:Tb) (tc:Tc) (G:Nat→Option (List PV)) (ops:Array Oper):Nat→Array Bool→Sx→Option (List Sx)
 | 0,lst,s=>if (Region.ready .any ops lst).isEmpty then some [s] else none
 | f+1,lst,s=>if (Region.ready .any ops lst).isEmpty then some [s] else (Region.ready .any ops lst).foldr (fun i acc=>match acc,step1 P tb tc G ops s i with
  | some l,some s'=>match zz1 P tb tc G ops f (lst.setIfInBounds i true) s' with
   | some l'=>some (l'++l)
   | none=>none
  | _,_=>none) (some [])
theorem zuv {F:Nat→Option Sx} {X:Nat→Sx→Option (List Sx)}:∀ {r:List Nat} {l:List Sx},r.foldr (fun i acc=>match acc,F i with
  | some l,some s'=>match X i s' with
   | some l'=>some (l'++l)
   | none=>none
  | _,_=>none) (some [])=some l→∀ i∈r,∃ s' l',F i=some s'∧X i s'=some l'∧∀ x∈l',x∈l
 | [],l,h,i,hi=>by cases hi
 | j::r,l,h,i,hi=>by
  rw [List.foldr_cons] at h
  split at h
  ·rename_i l0 s' h1 h2
   split at h
   ·rename_i l' h3
    injection h with h
    subst h
    rcases List.mem_cons.1 hi with rfl|hi
    ·exact ⟨s',l',h2,h3,fun x hx=>List.mem_append.2 (.inl hx)⟩
    ·obtain ⟨s2,l2,q1,q2,q3⟩:=zuv h1 i hi
     exact ⟨s2,l2,q1,q2,fun x hx=>List.mem_append.2 (.inr (q3 x hx))⟩
   ·cases h
  ·cases h
theorem z01l (hT:TbOk P tb) (hC:TcOk P tc) {K:Sx→Prop}:∀ (f:Nat) (lst:Array Bool) (s:Sx) (l:List Sx),zz1 P tb tc G ops f lst s=some l→(∀ s'∈l,K s')→AnyT P G ops f lst s K:=by
 intro f
 induction f with
 | zero =>
  intro lst s l h hk E η J a w hr Q' hQ
  unfold zz1 at h
  split at h
  ·rename_i he
   injection h with h
   subst h
   exact ⟨List.isEmpty_iff.1 he,hQ _ _ _ _ _ (hk s (by simp)) hr⟩
  ·cases h
 | succ f ih =>
  intro lst s l h hk E η J a w hr Q' hQ
  unfold zz1 at h
  split at h
  ·rename_i he
   injection h with h
   subst h
   refine ⟨fun _=>hQ _ _ _ _ _ (hk s (by simp)) hr,fun i hi=>?_⟩
   rw [List.isEmpty_iff.1 he] at hi
   cases hi
  ·rename_i he
   refine ⟨fun hn=>absurd (List.isEmpty_iff.2 hn) he,fun i hi=>?_⟩
   obtain ⟨s',l',h1,h2,h3⟩:=zuv h i hi
   unfold step1 at h1
   split at h1
   ·rename_i o ho
    split at h1
    ·rename_i hg
     split at h1
     ·rename_i s2 hev
      injection h1 with h1
      subst h1
      unfold wpOp
      rw [ho]
      have hw:Region.wanted o (yielded ops a.tmps)=true:=by unfold Region.wanted;rw [hg]
      simp only [hw,if_true]
      exact .inl (zuo hT hC (K:=fun x=>x=s2) hev trivial rfl E η J a w hr _ _ fun a' w' η' J' s3 hs hr'=>by
       subst hs
       exact ih _ _ _ h2 (fun x hx=>hk x (h3 x hx)) E η' J' a' w' hr' Q' hQ)
     ·cases h1
    ·cases h1
   ·cases h1
end
def chI (cx:Cx) (k:List Fr) (s:Sx):Option (Sx × Sx):=match k with
 | .c (.region _ ops true)::_=>match zz1 cx.P cx.tb cx.tc cx.G ops ops.size (Array.replicate ops.size false) s with
  | some [a,b]=>some (a,b)
  | _=>none
 | _=>none
def chS (o:Option (Sx × Sx)) (b:Bool):Sx:=match o with
 | some q=>if b then q.2 else q.1
 | none=>sx0
theorem ch {cx:Cx} (hc:CxOk cx) {k:List Fr} {s:Sx} {T:Tg} (hi:(chI cx k s).isSome=true) (h1:Go cx (k.drop 1) (chS (chI cx k s) true) T) (h2:Go cx (k.drop 1) (chS (chI cx k s) false) T):Go cx k s T:=by
 obtain ⟨q,hq⟩:=Option.isSome_iff_exists.1 hi
 rw [hq] at h1 h2
 unfold chI at hq
 split at hq
 ·rename_i id ops k'
  split at hq
  ·rename_i a b hev
   injection hq with hq
   subst hq
   refine ⟨(?_:z9w cx.P cx.G (.region id ops true) s (KQ cx.P cx.G (QT cx T) k'))⟩
   intro E η J ac w hr
   refine wp_region_any hc.mx (z01l hc.tb hc.tc (K:=fun s'=>KQ cx.P cx.G (QT cx T) k' .normal s') _ _ _ _ hev (fun s' hs=>?_) E η J ac _ hr.drew _ fun a' w' η' J' s' hK hr'=>⟨η',J',s',hK,hr'⟩)
   rcases List.mem_cons.1 hs with rfl|hs
   ·exact h2.go
   ·rcases List.mem_cons.1 hs with rfl|hs
    ·exact h1.go
    ·cases hs
  ·cases hq
 ·cases hq
end Go.Proofs.YtimbigpplbbjaaaGreatDoor.Abs

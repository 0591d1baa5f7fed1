/- Trees in the evaluator: taken out, put back, told otherwise. -/
import Derived.Test.YtimbigpplbbjaaaGreatDoorEvG
namespace Go.Proofs.YtimbigpplbbjaaaGreatDoor.Abs
open Go Go.RowKit
set_option linter.unusedVariables false
set_option linter.unusedSimpArgs false
section
variable {P:Program} {G:Nat→Option (List PV)} {cx:Cx}
inductive Tg' where
 | tr (b:Nat)
 | op (b i q:Nat) (y:List PV)
 | cl (b:Nat) (y:List PV) (zs:List (List PV))
 | un (b:Nat) (zs:List (List PV))
 | g (x:Gh)
def gt (g:Tg') (s:Sx):List Prop × Sx × Bool:=match g with
 | .tr b=>match s.st[b]? with
  | some (some (.row m ch E sz xs))=>([],⟨s.n,s.m,s.env,s.st.set b (some (.tree m ch none E sz xs))⟩,true)
  | _=>([],s,false)
 | .op b i q y=>match s.st[b]?,y[q]? with
  | some (some (.tree true ch none E sz xs)),some (.os t E' sz' ys)=>([xs[i]?=some y],⟨s.n,s.m,s.env,s.st.set b (some (.tree true ch (some (i,q,.row s.st.length)) E sz xs))++[some (z06d t E' sz' ys)]⟩,true)
  | _,_=>([],s,false)
 | .cl b y zs=>match s.st[b]? with
  | some (some (.tree true ch (some (i,q,.row n)) E sz xs))=>match s.st[n]? with
   | some (some on)=>match zwj on with
    | some (t,E',sz',ys)=>if n≠b∧q<sz then ([xs[i]?=some y,xs.set i (putP y q [.os t E' sz' ys])=zs],⟨s.n,s.m,z5b (prg n) s.env,((z99 (prg n) s.st).set n none).set b (some (.tree true ch none E sz zs))⟩,true) else ([],s,false)
    | none=>([],s,false)
   | _=>([],s,false)
  | _=>([],s,false)
 | .un b zs=>match s.st[b]? with
  | some (some (.tree true ch none E sz xs))=>([unLL xs=zs],⟨s.n,s.m,s.env,s.st.set b (some (.row true ch E sz zs))⟩,true)
  | _=>([],s,false)
 | .g x=>match gh x s with
  | some s'=>([],s',true)
  | none=>([],s,false)
theorem z0ad {g:Tg'} {s:Sx} (hp:conj (gt g s).1) (hb:(gt g s).2.2=true):Weak G s (gt g s).2.1:=by
 unfold gt at hp hb ⊢
 split
 ·split
  ·rename_i h;exact z06f h
  ·exact Weak.refl s
 ·split
  ·rename_i h1 h2
   simp only [h1,h2] at hp
   exact z00k h1 hp.1 h2
  ·exact Weak.refl s
 ·split
  ·rename_i h1
   simp only [h1] at hp
   split
   ·rename_i h2
    simp only [h2] at hp
    split
    ·rename_i h3
     simp only [h3] at hp
     split
     ·rename_i h4
      rw [if_pos h4] at hp
      obtain ⟨h5,h6,_⟩:=hp
      subst h6
      exact zp0 h1 h2 h3 h4.1 h5 h4.2
     ·exact Weak.refl s
    ·exact Weak.refl s
   ·exact Weak.refl s
  ·exact Weak.refl s
 ·split
  ·rename_i h1
   simp only [h1] at hp
   obtain ⟨h5,_⟩:=hp
   subst h5
   exact z06e h1
  ·exact Weak.refl s
 ·split
  ·rename_i h;exact z04y h
  ·exact Weak.refl s
theorem z06i {k:List Fr} {s s':Sx} {T:Tg} (h:Weak cx.G s s') (hk:Go cx k s' T):Go cx k s T:=⟨wkKQ (wkQT T) _ _ _ h hk.go⟩
theorem zg (g:Tg') {k:List Fr} {s:Sx} {T:Tg} {B:Prop} (pf:B) (h:(conj (gt g s).1,(gt g s).2.2)=(B,true)) (hk:Go cx k (gt g s).2.1 T):Go cx k s T:=by
 simp only [Prod.mk.injEq] at h
 obtain ⟨h1,h2⟩:=h
 exact z06i (z0ad (by rw [h1];exact pf) h2) hk
end
abbrev oT (ch:Bool) (h:Option (Nat × Nat × BV)) (E sz:Nat) (xs:List (List PV)):Option Obj':=some (.tree true ch h E sz xs)
section
variable {α β:Type} {e f:α→List PV} {e':α→List PV} {L:List α}
theorem unm (h:∀ x,unL (e' x)=e x) (L:List α):unLL (L.map e')=L.map e:=by
 rw [zfu,List.map_map]
 exact List.map_congr_left fun x _=>h x
theorem apt1 {B:Nat} {x:α} {v:List α} (e:α→List PV) (h:app B L [x]=some v):((L.map e).length+1)*B≤140737488355328:=by
 have:=(appE h).1
 rw [List.length_map];exact this
theorem apt2 {B:Nat} {x:α} {v:List α} (e:α→List PV) (h:app B L [x]=some v):L.map e++[e x]=v.map e:=by
 rw [(appE h).2,List.map_append];rfl
theorem rpm {p:PV} {z:α} (e:α→List PV) (n:Nat) (h:e z=[p]):List.replicate n [p]=(List.replicate n z).map e:=by rw [List.map_replicate,h]
theorem psm {n:Nat × Nat} {a b:Int} (e:α→List PV) (h:psub L.length a b=some n):psub (L.map e).length a b=some (n.1,n.2):=by rw [List.length_map,h]
theorem psm0 {n:Nat × Nat} {a:Int} (e:α→List PV) (h:psub L.length a (L.length:Int)=some n):psub (L.map e).length a ((L.map e).length:Int)=some (n.1,n.2):=by rw [List.length_map,h]
theorem psl {n:Nat × Nat} {a b:Int} (e:α→List PV) (h:psub L.length a b=some n):n.1+n.2≤(L.map e).length:=by
 obtain ⟨h1,h2,h3,rfl⟩:=z07c h
 rw [List.length_map];simp only;omega
theorem apl1 (e:α→List PV) (L:List α) (x0:α):(L.map e++[e x0])[(L.map e).length+0]?=some (e x0):=by simp
theorem apl2 {B:Nat} {z:α} {v:List α} (e:α→List PV) (x0:α) (h:app B L [z]=some v):(L.map e++[e x0]).set ((L.map e).length+0) (e z)=v.map e:=by
 rw [← apt2 e h,Nat.add_zero,List.set_append];simp
end
end Go.Proofs.YtimbigpplbbjaaaGreatDoor.Abs

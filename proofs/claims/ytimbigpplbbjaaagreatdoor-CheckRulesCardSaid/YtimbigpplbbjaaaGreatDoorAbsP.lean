/- Abstract states of the machine: objects that are renamed, calls that turn objects and hand some back, arrays by functions of their places. -/
import Derived.Test.YtimbigpplbbjaaaGreatDoorAbsO
namespace Go.Proofs.YtimbigpplbbjaaaGreatDoor.Abs
open Go Go.RowKit
set_option linter.unusedVariables false
set_option linter.unusedSimpArgs false
section
variable {P:Program} {G:Nat→Option (List PV)} {ops:Array Oper} {o:Oper} {l:List Oper} {n m t:Nat} {env env':List (Nat × List XV)} {st st':z0q} {K:Sx→Prop} {Q:Exit→Sx→Prop}
def mv (b c:Nat):BV→BV
 | .row x=>if x=b then .row c else if x=c then .any else .row x
 | .rp x sz i o=>if x=b then .rp c sz i o else if x=c then .any else .rp x sz i o
 | .box x o=>if x=b then .box c o else if x=c then .any else .box x o
 | .bx x n=>if x=b then .bx c n else if x=c then .any else .bx x n
 | .pr x sz i n=>if x=b then .pr c sz i n else if x=c then .any else .pr x sz i n
 | x=>x
def Obj'.chd:Obj'→Obj'
 | .box m T cs=>.box m T cs
 | .row m _ E sz xs=>.row m true E sz xs
 | .tree m _ h E sz xs=>.tree m true h E sz xs
theorem z04d (o:Obj'):o.chd.mut=o.mut:=by cases o <;> rfl
def mvH (η:Hd) (b c:Nat):Hd:=⟨fun x=>if x=c then η.f b else η.f x,fun x=>η.d x∨x=c,fun x=>if x=c then η.x b else η.x x⟩
theorem zsh {η:Hd} {b c:Nat}:(mvH η b c).f c=η.f b:=by show (if c=c then _ else _)=_;rw [if_pos rfl]
theorem zml {η:Hd} {b c x:Nat} (h:x≠c):(mvH η b c).f x=η.f x:=by show (if x=c then _ else _)=_;rw [if_neg h]
theorem z02w {η:Hd} {b c:Nat}:(mvH η b c).x c=η.x b:=by show (if c=c then _ else _)=_;rw [if_pos rfl]
theorem zxz {η:Hd} {b c x:Nat} (h:x≠c):(mvH η b c).x x=η.x x:=by show (if x=c then _ else _)=_;rw [if_neg h]
theorem zpl {η:Hd} {J:Nat→Prop} {w:World} {b c:Nat} {x:BV} {v:Value} (hx:BVr η J w x v):BVr (mvH η b c) J w (mv b c x) v:=by
 have one:=hx.one
 cases x with
 | any=>exact hx
 | pv p=>exact hx
 | emp=>exact hx
 | ep xs=>exact hx
 | row y =>
  show BVr _ J w (if y=b then .row c else if y=c then .any else .row y) v
  by_cases e:y=b
  ·rw [if_pos e];subst e;exact ⟨.inr rfl,hx.2.1.trans zsh.symm,one⟩
  ·rw [if_neg e]
   by_cases e':y=c
   ·rw [if_pos e'];exact one
   ·rw [if_neg e'];exact ⟨.inl hx.1,hx.2.1.trans (zml e').symm,one⟩
 | box y o =>
  obtain ⟨h0,k,h1,h2⟩:=hx
  show BVr _ J w (if y=b then .box c o else if y=c then .any else .box y o) v
  by_cases e:y=b
  ·rw [if_pos e];subst e;exact ⟨.inr rfl,k,zsh.trans h1,h2⟩
  ·rw [if_neg e]
   by_cases e':y=c
   ·rw [if_pos e'];exact one
   ·rw [if_neg e'];exact ⟨.inl h0,k,(zml e').trans h1,h2⟩
 | pr y sz i n =>
  obtain ⟨h0,h2⟩:=hx
  show BVr _ J w (if y=b then .pr c sz i n else if y=c then .any else .pr y sz i n) v
  by_cases e:y=b
  ·rw [if_pos e];subst e
   rcases h2 with h2|⟨k,len,cap,c',h2,h3⟩
   ·exact ⟨.inr rfl,.inl h2⟩
   ·exact ⟨.inr rfl,.inr ⟨k,len,cap,c',zsh.trans h2,h3⟩⟩
  ·rw [if_neg e]
   by_cases e':y=c
   ·rw [if_pos e'];exact one
   ·rw [if_neg e']
    rcases h2 with h2|⟨k,len,cap,c',h2,h3⟩
    ·exact ⟨.inl h0,.inl h2⟩
    ·exact ⟨.inl h0,.inr ⟨k,len,cap,c',(zml e').trans h2,h3⟩⟩
 | bx y n =>
  obtain ⟨h0,k,h1,h2⟩:=hx
  show BVr _ J w (if y=b then .bx c n else if y=c then .any else .bx y n) v
  by_cases e:y=b
  ·rw [if_pos e];subst e;exact ⟨.inr rfl,k,zsh.trans h1,h2⟩
  ·rw [if_neg e]
   by_cases e':y=c
   ·rw [if_pos e'];exact one
   ·rw [if_neg e'];exact ⟨.inl h0,k,(zml e').trans h1,h2⟩
 | rp y sz i o =>
  obtain ⟨h0,k,n,cap,h1,h2⟩:=hx
  show BVr _ J w (if y=b then .rp c sz i o else if y=c then .any else .rp y sz i o) v
  by_cases e:y=b
  ·rw [if_pos e];subst e;exact ⟨.inr rfl,k,n,cap,zsh.trans h1,h2⟩
  ·rw [if_neg e]
   by_cases e':y=c
   ·rw [if_pos e'];exact one
   ·rw [if_neg e'];exact ⟨.inl h0,k,n,cap,(zml e').trans h1,h2⟩
theorem ObjR.to {η η':Hd} {J:Nat→Prop} {w:World} {f:BV→BV} {b c:Nat} {o:Obj'} (h:ObjR η J w b o) (hη:η'.f c=η.f b) (hx:η'.x c=η.x b) (hf:∀ x v,BVr η J w x v→BVr η' J w (f x) v):ObjR η' J w c (o.map f).chd:=by
 have:=h.map2 hη hx (fun _ _=>rfl) hf (fun _ _ h=>h)
 cases o <;> exact this
theorem zpm {b c:Nat} {f:BV→BV} {o2:Obj'} {st:z0q} {x:Nat} {o':Obj'} (h:(((z99 f st).set b none).set c (some o2))[x]?=some (some o')) :
  (x=c∧o'=o2)∨(x≠c∧x≠b∧∃ o'',st[x]?=some (some o'')∧o'=o''.map f):=by
 by_cases e:x=c
 ·subst e
  rw [List.getElem?_set] at h
  simp only [if_true] at h
  split at h
  ·injection h with h;injection h with h;exact .inl ⟨rfl,h.symm⟩
  ·cases h
 ·rw [List.getElem?_set_ne (Ne.symm e)] at h
  by_cases e':x=b
  ·subst e'
   rw [List.getElem?_set] at h
   simp only [if_true] at h
   split at h
   ·injection h with h;cases h
   ·cases h
  ·rw [List.getElem?_set_ne (Ne.symm e')] at h
   obtain ⟨o'',h1,h2⟩:=(zk9 f st x o').1 h
   exact .inr ⟨e,e',o'',h1,h2⟩
theorem z09n {η:Hd} {b c k:Nat} (h:Own (mvH η b c) c k):Own η b k:=by
 unfold Own at h ⊢;rw [zsh,z02w] at h;exact h
theorem z074 {η:Hd} {b c x k:Nat} (e:x≠c) (h:Own (mvH η b c) x k):Own η x k:=by
 unfold Own at h ⊢;rw [zml e,zxz e] at h;exact h
theorem zy0 {s:Sx} (b c:Nat) {o:Obj'} (hb:s.st[b]?=some (some o)) (hc:s.st[c]?=some none) (hm:s.m≤c∨(o.map (mv b c)).chd.same=false) :
  Weak G s ⟨s.n,s.m,z5b (mv b c) s.env,((z99 (mv b c) s.st).set b none).set c (some (o.map (mv b c)).chd)⟩:=by
 intro E0 η J a w hr
 have hbc:b≠c:=fun e=>by subst e;rw [hb] at hc;cases hc
 have hlen:c<s.st.length:=(List.getElem?_eq_some_iff.1 hc).1
 have hR:∀ x o',(((z99 (mv b c) s.st).set b none).set c (some (o.map (mv b c)).chd))[x]?=some (some o')→∀ k,Own (mvH η b c) x k→∃ (y:Nat) (o'':Obj'),s.st[y]?=some (some o'')∧Own η y k∧(x=c∧y=b∨x≠c∧x≠b∧y=x)∧o'.mut=o''.mut:=fun x o' hx k hk=>by
  rcases zpm hx with ⟨rfl,rfl⟩|⟨e1,e2,o'',h1,rfl⟩
  ·exact ⟨b,o,hb,z09n hk,.inl ⟨rfl,rfl⟩,by rw [z04d,zhh]⟩
  ·exact ⟨x,o'',h1,z074 e1 hk,.inr ⟨e1,e2,rfl⟩,zhh _ _⟩
 refine ⟨mvH η b c,J,hr.size,hr.m,hr.defers,fun t xs ht=>?_,⟨fun x hx=>?_,hr.ok.jlt,fun x o' hx=>?_,fun x y o1 o2 k hx hy h1 h2=>?_,fun x o' k hx hk=>?_,hr.ok.glob⟩,
  ⟨hr.ex.jj,hr.ex.os,hr.ex.tape,hr.ex.output,hr.ex.size,hr.ex.keep,hr.ex.jn,?_,fun x o' k hx hk=>?_,fun x o' hl hx hs=>?_⟩⟩
 ·have ht':lk (z5b (mv b c) s.env) t=some xs:=ht
  rw [zn7] at ht'
  cases h0:lk s.env t with
  | none=>rw [h0] at ht';cases ht'
  | some ys =>
   rw [h0] at ht'
   injection ht' with ht'
   subst ht'
   exact (hr.env t ys h0).map (fun _ _ h=>zpl h)
 ·simp only [List.length_set,z99,List.length_map]
  rcases hx with hx|rfl
  ·exact hr.ok.len x hx
  ·exact hlen
 ·rcases zpm hx with ⟨rfl,rfl⟩|⟨e1,e2,o'',h1,rfl⟩
  ·exact (hr.ok.obj b o hb).to zsh z02w (fun _ _ h=>zpl h)
  ·exact (hr.ok.obj x o'' h1).map (zml e1) (zxz e1) (fun _ _=>rfl) (fun _ _ h=>zpl h) (fun _ _ h=>h)
 ·obtain ⟨x',p1,a1,a2,a3,_⟩:=hR x o1 hx k h1
  obtain ⟨y',p2,b1,b2,b3,_⟩:=hR y o2 hy k h2
  have:=hr.ok.dis x' y' p1 p2 k a1 b1 a2 b2
  omega
 ·obtain ⟨x',p1,a1,a2,_,_⟩:=hR x o' hx k hk
  exact hr.ok.jd x' p1 k a1 a2
 ·show _≤(((z99 (mv b c) s.st).set b none).set c (some (o.map (mv b c)).chd)).length
  simp only [List.length_set,z99,List.length_map]
  exact hr.ex.len
 ·obtain ⟨x',p1,a1,a2,_,a4⟩:=hR x o' hx k hk
  rcases hr.ex.own x' p1 k a1 a2 with h|⟨c',o'',h1,h2,h3⟩
  ·exact .inl h
  ·exact .inr ⟨c',o'',h1,h2,fun h=>h3 (a4 ▸ h)⟩
 ·rcases zpm hx with ⟨rfl,rfl⟩|⟨e1,e2,o'',h1,rfl⟩
  ·rcases hm with hm|hm
   ·have:=hr.m;omega
   ·rw [hm] at hs;cases hs
  ·obtain ⟨q,h2,h3,h4⟩:=hr.ex.hdr x o'' hl h1 (by rwa [zii] at hs)
   exact ⟨q,h2,h3,(zml e1).trans h4⟩
def zqx (P:Program) (G:Nat→Option (List PV)) (f:FuncId) (args:List XV) (st:z0q) (res:List XV) (st':z0q):Prop:=zpd P G f args st (fun x s=>x=res∧s=st')
def RS {ρ:Type} (P:Program) (fn:Func) (res:ρ→List XV) (out:ρ→z0q) (r:ρ):Exit→Sx→Prop
 | .ret,s=>RetQ P fn (fun x st=>x=res r∧st=out r) .ret s
 | _,_=>False
theorem RS.only {ρ:Type} {fn:Func} {res:ρ→List XV} {out:ρ→z0q}:zsg (RS P fn res out):=fun r e s h=>by cases e <;> first|rfl|exact False.elim h
theorem rs {ρ:Type} {fn:Func} {res:ρ→List XV} {out:ρ→z0q} {r:ρ} {s:Sx} {x:List XV} (h:ResR P s fn.results.toList x) (h1:x=res r) (h2:s.st=out r):RS P fn res out r .ret s:=⟨x,h,h1,h2⟩
end
end Go.Proofs.YtimbigpplbbjaaaGreatDoor.Abs

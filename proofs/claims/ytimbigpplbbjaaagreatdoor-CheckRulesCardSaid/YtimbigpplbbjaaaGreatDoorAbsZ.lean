/- A list that is copied behind an empty slice: a plain slice of its own. -/
import Derived.Test.YtimbigpplbbjaaaGreatDoorAbsY
namespace Go.Proofs.YtimbigpplbbjaaaGreatDoor.Abs
open Go Go.RowKit
set_option linter.unusedVariables false
set_option linter.unusedSimpArgs false
section
variable {P:Program} {G:Nat→Option (List PV)} {o:Oper} {s:Sx}
theorem zw7 {T E:TypeId} {x y:Operand} {sz bytes:Nat} {yv:XV} {ys:List (List PV)} (ho:o.op=.call { callee:=.builtin .append,args:=#[x,y],argTypes:=#[T,T] }) (hu:P.underlying T=some (.slice E)) (hE:TyE P E sz bytes) (hb0:0<bytes)
  (hx:val G s.env x=some (.c .emp)) (hy:val G s.env y=some yv) (hs:Src s yv ys) (hsz:∀ e∈ys,e.length=sz) (hbytes:ys.length*bytes≤140737488355328):FlT P G o s [.c (.pv (.sl ys))]:=by
 intro E0 η J a w hr K' Q' hK
 obtain ⟨A',hA⟩:=hr.val hx
 obtain ⟨A,c,us,hyv,hc,hl,hlen,hcell⟩:=hs.reads hr (hr.val hy) hsz
 have hrun0:∀ w2 v2,(Builtin.append_ #[T,T] o.type #[a.eval x,a.eval y]).run P w=.ok v2 w2→(execOp a.eval o).run P w=.ok (.value v2) w2:=fun w2 v2 h=>by
  simp [execOp,ho,resolve,invoke,builtin,h]
 by_cases h0:ys=[]
 ·subst h0
  have hr0:=zei (P:=P) (ty:=o.type) hu hE A' A 0 0 c (Nat.le_refl _) w
  simp only [List.length_nil] at hyv
  rw [← hA,← hyv] at hr0
  unfold Oper.wp
  rw [hrun0 _ _ hr0,Oper.upon_value]
  refine hK _ w J ⟨fun _ h=>h,rfl,rfl,rfl,Nat.le_refl _,fun _ _=>rfl,fun _ h=>.inl h,hr.ok.jlt⟩ ?_
  show Rd w J (.sl []) (a.eval x)
  rw [hA];exact .nil A' 0
 ·obtain ⟨k0,off0,rfl,hcell2⟩:=hcell h0
  have hm:0<ys.length:=by
   rcases Nat.eq_zero_or_pos ys.length with h|h
   ·exact absurd (List.eq_nil_of_length_eq_zero h) h0
   ·exact h
  have h1:∀ u∈us,u.oneCell'=true:=fun u hu2=>by
   obtain ⟨i,hi⟩:=List.mem_iff_getElem?.1 hu2
   have hlt:i<ys.flatten.length:=by rw [hl.len];exact (List.getElem?_eq_some_iff.1 hi).1
   exact (hl.at_ i _ u (List.getElem?_eq_getElem hlt) hi).one
  obtain ⟨v',w',hrun,ap⟩:=zij (ty:=o.type) hu hE w (a.eval x) 0 [] (.inl ⟨rfl,rfl,A',hA⟩) ⟨k0,off0,none⟩ ys.length c us hlen (fun j u hju=>by rw [Addr.add_lit];exact hcell2 j u hju) h1 hm hb0 (by rw [Nat.zero_add];exact hbytes)
  rw [← hyv] at hrun
  obtain ⟨k,cap,e1,e2,e3,e4⟩:=ap.res
  rw [Nat.zero_add] at e1 e3
  rw [List.nil_append] at e3
  have hk:w.heap.size≤k:=by
   rcases e4 with ⟨m,c',e5,e6⟩|e5
   ·rw [hA] at e5;injection e5 with _ _ e5;omega
   ·exact e5
  have keep:∀ j,j<w.heap.size→w'.heap[j]?=w.heap[j]?:=fun j hj=>ap.keep j hj (fun m cap he=>by
   rw [hA] at he;injection he with _ _ he;exact he.symm)
  have hkl:k<w'.heap.size:=by
   rcases e3.2 with ⟨q,_⟩|⟨g,c',cur,q,_,hg,_⟩
   ·rw [e1] at q;cases q
   ·rw [e1] at q;injection q with q;injection q with q;injection q with q;subst q;exact (Array.getElem?_eq_some_iff.1 hg).1
  unfold Oper.wp
  rw [hrun0 _ _ hrun,Oper.upon_value]
  refine hK _ w' (fun j=>J j∨j=k) ⟨fun _ h=>.inl h,ap.os,ap.tape,ap.output,ap.size,keep,fun j h=>h.imp id (fun h=>by omega),fun j h=>?_⟩ ?_
  ·rcases h with h|rfl
   ·have:=hr.ok.jlt j h;have:=ap.size;omega
   ·exact hkl
  ·show Rd w' (fun j=>J j∨j=k) (.sl ys) v'
   have hcap:ys.length≤cap:=by
    rcases e3.2 with ⟨q,_⟩|⟨g,c',cur,q,_,_,hcc,_⟩
    ·rw [e1] at q;cases q
    ·rw [e1] at q;injection q with _ _ q;subst q;exact hcc
   have cell:∀ (i:Nat) (x:List PV) (j:Nat) (p:PV),ys[i]?=some x→x[j]?=some p→∃ u,us[i*sz+j]?=some u∧w'.cell? ⟨k,0+(i*sz+j),none⟩=some u∧Rd w' (fun j=>J j∨j=k) p u:=by
    intro i x j p hx hp
    obtain ⟨u,hu,hR⟩:=hl.get (z70 hsz hx hp)
    have:=e3.cells (g:=k) (by rw [e1];rfl) (i*sz+j) u hu
    rw [Addr.add_lit] at this
    exact ⟨u,hu,this,Rd.mono (fun _ h=>.inl h) (fun b hb=>keep b (hr.ok.jlt b hb)) hR⟩
   rw [e1]
   refine Rd.sl ys sz k 0 cap (fun i j=>us.getD (i*sz+j) undef) h0 (.inr rfl) hcap (fun i x hx=>hsz x (List.mem_of_getElem? hx)) (fun i x j p hx hp=>?_) (fun i x j p hx hp=>?_)
   ·obtain ⟨u,h1,h2,h3⟩:=cell i x j p hx hp
    rw [List.getD_eq_getElem?_getD,h1];exact h2
   ·obtain ⟨u,h1,h2,h3⟩:=cell i x j p hx hp
    rw [List.getD_eq_getElem?_getD,h1];exact h3
theorem z07b {T E:TypeId} {sz:Nat} {z:Value} {zs cs:List BV} {ps:Array (Nat × Operand)} (ho:o.op=.buildSlice T 0 ps) (hS:SlF P T E sz z zs) (hz:decide (zs.length=sz∧0*sz≤16777216)=true)
  (hp:zg7 G s.env ps.toList=some []) (hf:zlm (fun i=>some (i*sz,sz)) (zhl zs (0*sz)) []=some cs):FlT P G o s [.c .emp]:=by
 intro E0 η J a w hrel K' Q' hK
 obtain ⟨vs,hrun,hl2⟩:=run_buildSlice ho hS hz hp hf hrel
 unfold Oper.wp
 rw [hrun,Oper.upon_value]
 have hw:∀ k,k<w.heap.size→(w.alloc (.cells vs E)).heap[k]?=w.heap[k]?:=fun k hk=>heap_alloc_old w _ k hk
 exact hK _ _ J ⟨fun _ h=>h,rfl,rfl,rfl,by simp,hw,fun k hk=>.inl hk,fun k hk=>by have:=hrel.ok.jlt k hk;simp;omega⟩ ⟨_,rfl⟩
end
end Go.Proofs.YtimbigpplbbjaaaGreatDoor.Abs

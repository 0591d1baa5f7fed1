/- Abstract states of the machine: stores into rows, lifts in cells, empty slices told as values. -/
import Derived.Test.YtimbigpplbbjaaaGreatDoorAbsI
namespace Go.Proofs.YtimbigpplbbjaaaGreatDoor.Abs
open Go Go.RowKit
set_option linter.unusedVariables false
set_option linter.unusedSimpArgs false
section
variable {P:Program} {G:Nat→Option (List PV)} {o:Oper} {s:Sx} {n m t:Nat} {env:List (Nat × List XV)} {st st':z0q} {K:Sx→Prop}
theorem zxv {T E:TypeId} {x y:Operand} {b i off sz sz':Nat} {agg ch:Bool} {xs:List (List PV)} {e ps:List PV} {v:XV} {ys:List BV} (hd:o.dst=none) (ho:o.op=.store T x y) (hT:Ty P T agg sz')
  (hx:val G s.env x=some (.c (.rp b sz i off))) (hb:s.st[b]?=some (some (.row true ch E sz xs))) (he:xs[i]?=some e) (hy:val G s.env y=some v) (hc:v.cells=some ys) (hp:zje ys=some ps) (hl:ps.length=sz') (hfit:off+ps.length≤sz)
  (hk:K ⟨s.n,s.m,s.env,s.st.set b (some (.row true ch E sz (xs.set i (putP e off ps))))⟩):OpT P G o s K:=by
 refine zsa hd fun E0 η J a w hr=>?_
 obtain ⟨hdb,k,n',cap',h1,h2⟩:=hr.val hx
 have hv:=(hr.val hy).cells hc
 have hpv:=zgp hp hv
 have hil:=(List.getElem?_eq_some_iff.1 he).1
 obtain ⟨hx0,⟨rfl,_⟩|⟨us,k',cap,q0,qc,q1,q2,q3⟩⟩:=hr.ok.obj b _ hb
 ·simp at he
 rw [h1] at q0;injection q0 with q0 q4 q5;injection q0 with q0;injection q0 with q0;subst q0;subst q4;subst q5
 rcases q1.2 with ⟨q,_⟩|⟨g,c,cur,q,_,hg,hle,hml,hcs,htake⟩
 ·rw [h1] at q;cases q
 rw [h1] at q;injection q with q _ qq;injection q with q;injection q with q;subst q;subst qq
 have hone:∀ u∈(a.eval y).cells.toList,u.oneCell'=true:=fun u hu=>by
  obtain ⟨j,hj⟩:=List.mem_iff_getElem?.1 hu
  have hlt:j<ys.length:=by rw [hv.len];exact (List.getElem?_eq_some_iff.1 hj).1
  exact (hv.at_ j _ u (List.getElem?_eq_getElem hlt) hj).one
 have hcl:(a.eval y).cells.toList.length=ps.length:=hpv.len.symm
 have hsz:(a.eval y).cells.size=sz':=by rw [← hl,← hcl];simp
 have hpos:i*sz+off+ps.length≤xs.length*sz:=by
  calc i*sz+off+ps.length≤i*sz+sz:=by omega
   _=(i+1)*sz:=by rw [Nat.add_mul];omega
   _≤xs.length*sz:=Nat.mul_le_mul_right _ hil
 have hcap:xs.length*sz≤cap' * sz:=Nat.mul_le_mul_right _ hle
 have hst:=run_storeCells_at P k (i*sz+off) E (a.eval y).cells.toList 0 cur w hg (by omega) hone
 simp only [Nat.add_zero] at hst
 rw [hcl] at hst
 generalize hnc:(cur.toList.take (i*sz+off)++(a.eval y).cells.toList++cur.toList.drop (i*sz+off+ps.length))=nl at hst
 have hown:Own η b k:=.inr (.inl ⟨_,_,h1,qc⟩)
 have hjk:¬ J k:=hr.ok.jd b _ k hb hown
 have hJw:∀ j,J j→(w.setRow k nl.toArray).heap[j]?=w.heap[j]?:=fun j hj=>z8i w k j _ (fun e=>hjk (e ▸ hj))
 have hf:∀ x v,BVr η J w x v→BVr η J (w.setRow k nl.toArray) (id x) v:=fun x v hx=>BVr.mono (fun _ h=>h) hJw (fun _ h _=>⟨h,rfl⟩) hx
 refine ⟨w.setRow k nl.toArray,η,J,⟨s.n,s.m,z5b id s.env,(z99 id s.st).set b (some (.row true ch E sz (xs.set i (putP e off ps))))⟩,?_,?_,by rw [z7x,zf7];exact hk⟩
 ·simp only [execOp,ho,h2,Instr.storeAt,Instr.sureAddr,storeVar]
  simp [z5c hT,hsz,hst]
 ·refine hr.turn (o:=.row true ch E sz xs) ⟨hb,rfl,fun _ h=>h,fun _ _=>rfl,fun _ _=>rfl,fun _ h=>h,rfl,rfl,rfl,by simp,fun j hj hn=>z8i w k j _ (fun e=>hn (e ▸ hown)),hf,fun o' ho'=>?_,fun o' j ho' hj=>⟨.inr hj,fun hJ=>hr.ok.jd b _ j hb hj hJ⟩,fun j hj=>.inl hj⟩
  injection ho' with ho'
  subst ho'
  have hlc:cur.toList.length=cap' * sz:=by simp [hcs]
  have hnl:nl.length=cap' * sz:=by
   rw [← hnc];simp only [List.length_append,List.length_take,List.length_drop,hcl,hlc];omega
  have hus:us=cur.toList.take (xs.length*sz):=htake.symm
  refine ⟨⟨hx0,.inr ⟨us.take (i*sz+off)++(a.eval y).cells.toList++us.drop (i*sz+off+ps.length),k,cap',by rw [List.length_set];exact h1,qc,⟨?_,.inr ⟨k,cap',nl.toArray,by rw [h1,List.length_set],Nat.zero_le _,zhi w k _ cur E hg,by rw [List.length_set];exact hle,hml,by simpa using hnl,?_⟩⟩,?_,?_⟩⟩,rfl,fun h=>⟨h,rfl⟩⟩
  ·rw [List.length_set]
   have:=q1.1
   simp only [List.length_append,List.length_take,List.length_drop,hcl];omega
  ·rw [List.length_set,hus]
   show nl.take (xs.length*sz)=_
   rw [← hnc]
   apply List.ext_getElem?
   intro j
   simp only [List.getElem?_append,List.length_append,List.length_take,List.length_drop,List.getElem?_take,List.getElem?_drop,hcl,hlc]
   have m1:min (i*sz+off) (cap' * sz)=i*sz+off:=by omega
   have m2:min (i*sz+off) (min (xs.length*sz) (cap' * sz))=i*sz+off:=by omega
   rw [m1,m2]
   by_cases c0:j<xs.length*sz
   ·by_cases c1:j<i*sz+off
    ·have e3:j<i*sz+off+ps.length:=by omega
     simp only [c0,c1,e3,if_true]
    ·by_cases c2:j<i*sz+off+ps.length
     ·simp only [c0,c2,c1,if_true,if_false]
     ·have e5:i*sz+off+ps.length+(j - (i*sz+off+ps.length))=j:=by omega
      simp only [c0,c2,e5,if_true,if_false]
   ·have c2:¬ j<i*sz+off+ps.length:=by omega
    have e5:i*sz+off+ps.length+(j - (i*sz+off+ps.length))=j:=by omega
    simp only [c0,c2,e5,if_false]
  ·rw [zpj q3 he hfit]
   have hR:∀ p v,Rd w J p v→Rd (w.setRow k nl.toArray) J p v:=fun p v h=>Rd.mono (fun _ h=>h) hJw h
   exact (((q2.take _).append hpv).append (q2.drop _)).mono hR
  ·intro x hx
   rcases List.mem_or_eq_of_mem_set hx with h|h
   ·exact q3 x h
   ·subst h
    have:=q3 e (List.mem_of_getElem? he)
    simp only [putP,List.length_append,List.length_take,List.length_drop];omega
theorem zw3 {s:Sx} {T:TypeId} {cs:List BV} (b i E sz:Nat) (hb:s.st[b]?=some (some (.box true T cs))) (h:cs[i]?=some .emp) :
  Weak G s ⟨s.n,s.m,s.env,(s.st.set b (some (.box true T (cs.set i (.row s.st.length)))))++[some (.row true false E sz [])]⟩:=by
 intro E0 η J a w hr
 obtain ⟨hx0,k,vs,h1,h2,h3⟩:=hr.ok.obj b _ hb
 obtain ⟨v,hv,A,hA⟩:=h3.get h
 have hno:∀ k,Own (η.push s.st.length (.slice A 0 0)) s.st.length k→w.heap.size≤k:=fun k hk=>by
  exact (zgn Hd.push_n Hd.push_x hk).elim
 have hbl:b<s.st.length:=(List.getElem?_eq_some_iff.1 hb).1
 have hnd:¬ η.d s.st.length:=fun h'=>by have:=hr.ok.len _ h';omega
 have r1:=hr.new (o:=.row true false E sz []) (v:=.slice A 0 0) rfl rfl rfl (Nat.le_refl _) (fun _ _=>rfl) hno ⟨Hd.push_x,.inl ⟨rfl,A,Hd.push_n⟩⟩
 have hb1:(s.st++[some (.row true false E sz [])])[b]?=some (some (.box true T cs)):=by rw [List.getElem?_append_left hbl];exact hb
 have hJw:∀ j,J j→w.heap[j]?=w.heap[j]?:=fun _ _=>rfl
 have r2:=r1.turn (b:=b) (o:=.box true T cs) (f:=id) (η':=η.push s.st.length (.slice A 0 0)) (J':=J) (w':=w) (new:=some (.box true T (cs.set i (.row s.st.length))))
  ⟨hb1,rfl,fun _ h=>h,fun _ _=>rfl,fun _ _=>rfl,fun _ h=>h,rfl,rfl,rfl,Nat.le_refl _,fun _ _ _=>rfl,fun _ _ h=>h,fun o' ho'=>by
   injection ho' with ho'
   subst ho'
   refine ⟨⟨by rw [Hd.push_xne (by omega)];exact hx0,k,vs,by rw [Hd.push_ne (by omega)];exact h1,h2,?_⟩,rfl,fun _=>⟨rfl,rfl⟩⟩
   have h4:L2 (BVr (η.push s.st.length (.slice A 0 0)) J w) cs vs.toList:=h3.mono (fun x u hx=>BVr.push hnd (fun _ _=>rfl) hx)
   have h5:=h4.set i (x:=.row s.st.length) (y:=v) (by rw [hA];exact ⟨.inr rfl,Hd.push_n.symm,rfl⟩)
   have h6:vs.toList.set i v=vs.toList:=by
    apply List.ext_getElem?
    intro j
    rw [List.getElem?_set]
    split
    ·rename_i e
     subst e
     rw [if_pos (List.getElem?_eq_some_iff.1 hv).1]
     exact hv.symm
    ·rfl
   rwa [h6] at h5,fun o' j ho' hj=>⟨.inr hj,fun hJ=>by
    injection ho' with ho'
    exact r1.ok.jd b _ j hb1 hj hJ⟩,fun j hj=>.inl hj⟩
 refine ⟨_,J,r2.size,r2.m,r2.defers,fun u xs hu=>r2.env u xs (by rw [z7x];exact hu),?_,?_⟩
 ·have:=r2.ok
  rw [zf7] at this
  rwa [List.set_append_left _ _ hbl] at this
 ·have:=r2.ex
  rw [zf7] at this
  rwa [List.set_append_left _ _ hbl] at this
end
end Go.Proofs.YtimbigpplbbjaaaGreatDoor.Abs

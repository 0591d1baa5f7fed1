/- Rows that are made at a length, and copied into. -/
import Derived.Test.YtimbigpplbbjaaaGreatDoorAbsX
import Derived.Laws.OwnMore
import Derived.Laws.CopyRow
import Derived.Laws.IdiomCopy
namespace Go.Proofs.YtimbigpplbbjaaaGreatDoor.Abs
open Go Go.RowKit
set_option linter.unusedVariables false
set_option linter.unusedSimpArgs false
section
variable {P:Program} {G:Nat→Option (List PV)} {o:Oper} {s:Sx} {n m t:Nat} {env:List (Nat × List XV)} {st st':z0q} {K:Sx→Prop}
def mkN (bytes:Nat) (n:Int):Option Nat:=if 0≤n∧bytes*n.toNat≤140737488355328∧n≤140737488355328 then some n.toNat else none
theorem mkNE {bytes k:Nat} {n:Int} (h:mkN bytes n=some k):n=(k:Int)∧bytes*k≤140737488355328∧k≤140737488355328:=by
 unfold mkN at h
 split at h
 ·rename_i c;injection h with h;subst h;omega
 ·cases h
theorem zui {T E:TypeId} {x:Operand} {k:IntKind} {i:Int} {z:Value} {p:PV} {bytes len b:Nat} (ho:o.op=.makeSlice T x x) (hu:P.underlying T=some (.slice E)) (hE:TyE P E 1 bytes) (hz:(P.info? E).bind (·.zero)=some z) (hzc:z.cells=#[z]) (hp:cv z=some (.c (.pv p)))
  (hx:val G s.env x=some (.c (.pv (.int k i)))) (hn:mkN bytes i=some len):BirT P G o s b (.row true false E 1 (List.replicate len [p])) [.c (.row b)]:=by
 intro E0 η J a w hrel
 obtain ⟨rfl,hb,hl⟩:=mkNE hn
 have hxv:=z5i (hrel.val hx)
 obtain ⟨inf,z',e1,e2,e3,e4,e5⟩:=hE.get
 have ez:z'=z:=by rw [e1] at hz;simp only [Option.bind_some] at hz;rw [e4] at hz;exact Option.some.inj hz
 subst ez
 have hmax:len≤maxLen:=by
  have:maxLen=9223372036854775807:=by decide
  omega
 obtain ⟨w',hrun,hrow,hgr⟩:=run_make_full (P:=P) w 0 T E inf z' 1 hu e1 e4 e2 k k len (by rw [e3];omega) hmax (Nat.zero_le _)
 rw [hzc,Nat.mul_one,toList_madeCells_one] at hrow
 have hw:∀ j,j<w.heap.size→w'.heap[j]?=w.heap[j]?:=fun j hj=>hgr.block j hj (by simp)
 have hz1:∀ J w,Rd w J p z':=fun J w=>zih η J w z' _ hp
 refine ⟨.slice (some ⟨w.heap.size,0,none⟩) len len,w',?_,hgr.os,hgr.tape,hgr.output,hgr.size,hw,fun hd=>⟨fun k hk=>zbo (.inr ⟨_,_,rfl⟩) k hk,?_,.inr rfl,Hd.push_n.symm,rfl⟩⟩
 ·simp [execOp,ho,hxv,hrun]
 ·refine ⟨Hd.push_x,?_⟩
  by_cases h0:len=0
  ·subst h0;exact .inl ⟨rfl,_,Hd.push_n⟩
  ·refine .inr ⟨List.replicate len z',w.heap.size,len,by rw [List.length_replicate];exact Hd.push_n,by omega,by rw [List.length_replicate,Hd.push_n];exact hrow,?_,fun x hx=>by rw [(List.mem_replicate.1 hx).2];rfl⟩
   have hf:∀ k:Nat,(List.replicate k [p]).flatten=List.replicate k p:=fun k=>by
    induction k with
    | zero=>rfl
    | succ k ih=>rw [List.replicate_succ,List.flatten_cons,ih];rfl
   rw [hf]
   have:∀ k:Nat,L2 (Rd w' J) (List.replicate k p) (List.replicate k z'):=fun k=>by
    induction k with
    | zero=>exact L2.nil
    | succ k ih=>exact L2.cons (hz1 J w') ih
   exact this len
def cpy {α:Type} (L M:List α):List α:=M.take (min M.length L.length)++L.drop (min M.length L.length)
theorem zni {α:Type} (L M:List α):(cpy L M).length=L.length:=by unfold cpy;simp;omega
theorem z04m {α β:Type} (f:α→β) (L M:List α):cpy (L.map f) (M.map f)=(cpy L M).map f:=by unfold cpy;simp [List.map_take,List.map_drop]
theorem zlp:∀ {xs:List (List PV)} (h:∀ x∈xs,x.length=1) (k:Nat),(xs.take k).flatten=xs.flatten.take k∧(xs.drop k).flatten=xs.flatten.drop k
 | [],_,k=>by simp
 | x::xs,h,0=>by simp
 | x::xs,h,k+1=>by
  have hx:=h x List.mem_cons_self
  obtain ⟨i1,i2⟩:=zlp (xs:=xs) (fun y hy=>h y (List.mem_cons_of_mem _ hy)) k
  match x,hx with
  | [p],_=>simp [i1,i2]
theorem z04n {T E:TypeId} {x y:Operand} {b:Nat} {ch:Bool} {yv:XV} {xs ys:List (List PV)} (hd:o.dst=some t) (ht:decide (t<s.n)=true)
  (ho:o.op=.call { callee:=.builtin .copy,args:=#[x,y],argTypes:=#[T,T] }) (hu:P.underlying T=some (.slice E)) (hs1:(P.info? E).map (·.size)=some 1)
  (hx:val G s.env x=some (.c (.row b))) (hb:s.st[b]?=some (some (.row true ch E 1 xs))) (hy:val G s.env y=some yv) (hs:Src s yv ys) (hsz:∀ e∈ys,e.length=1)
  (hk:K ⟨s.n,s.m,(t,[.c (.pv (.int .i64 (min (ys.length:Int) (xs.length:Int))))])::s.env,s.st.set b (some (.row true ch E 1 (cpy xs ys)))⟩):OpT P G o s K:=by
 refine zmj hd fun E0 η J a w hr=>?_
 obtain ⟨hbn,hv,hone⟩:=hr.val hx
 obtain ⟨A,c,us,hyv,hc,hl,hlen,hcell⟩:=hs.reads hr (hr.val hy) hsz
 have hrun0:∀ w2 v2,(Builtin.copy_ #[T,T] o.type #[a.eval x,a.eval y]).run P w=.ok v2 w2→(execOp a.eval o).run P w=.ok (.value v2) w2:=fun w2 v2 h=>by
  simp [execOp,ho,resolve,invoke,builtin,h]
 have hxv:∃ d cap,a.eval x=.slice d xs.length cap:=by
  rcases (hr.ok.obj b _ hb).2 with ⟨q,A',q0⟩|⟨us',k,cap,q0,_⟩
  ·subst q;exact ⟨A',0,hv.trans q0⟩
  ·exact ⟨_,cap,hv.trans q0⟩
 by_cases h0:Nat.min ys.length xs.length=0
 ·obtain ⟨d,cap,hxv⟩:=hxv
  have hmm:min ys.length xs.length=0:=h0
  have hmi:min (ys.length:Int) (xs.length:Int)=0:=by omega
  have hrun:=run_copy_none (P:=P) w T T o.type E d A xs.length cap ys.length c hu hs1 h0
  rw [← hxv,← hyv] at hrun
  have hcp:cpy xs ys=xs:=by unfold cpy;rw [hmm];simp
  have hst:s.st.set b (some (.row true ch E 1 xs))=s.st:=by
   apply List.ext_getElem?
   intro j
   rw [List.getElem?_set]
   split
   ·rename_i e;subst e;rw [if_pos (List.getElem?_eq_some_iff.1 hb).1,hb]
   ·rfl
  rw [hcp,hst,hmi] at hk
  exact ⟨_,w,η,J,s,[.c (.pv (.int .i64 0))],hrun0 _ _ hrun,hr,by simpa using ht,(show Rd w J (.int .i64 0) (.int .i64 0) from .int _ _),hk⟩
 ·have hmm:¬ min ys.length xs.length=0:=h0
  have hys:ys≠[]:=fun e=>by subst e;simp at hmm
  obtain ⟨k0,off0,rfl,hcell2⟩:=hcell hys
  obtain ⟨hx0,⟨q,_⟩|⟨us',k,cap,q0,qc,q1,q2,q3⟩⟩:=hr.ok.obj b _ hb
  ·subst q;simp at hmm
  have hev:=hv.trans q0
  rcases q1.2 with ⟨q,_⟩|⟨g,c',cur,q,_,hg,hle,hml,hcs,htake⟩
  ·rw [q0] at q;cases q
  rw [q0] at q;injection q with q _ qq;injection q with q;injection q with q;subst q;subst qq
  generalize hN:min ys.length xs.length=N at hmm
  have hul:us.length=ys.length:=by omega
  have hcl:(us.take N).length=N:=by rw [List.length_take];omega
  have hone:∀ u∈us.take N,u.oneCell'=true:=fun u hu2=>by
   obtain ⟨j,hj⟩:=List.mem_iff_getElem?.1 (List.mem_of_mem_take hu2)
   have hlt:j<ys.flatten.length:=by rw [hl.len];exact (List.getElem?_eq_some_iff.1 hj).1
   exact (hl.at_ j _ u (List.getElem?_eq_getElem hlt) hj).one
  have hrun:=run_copy_row (P:=P) w T T o.type E k 0 xs.length cap ⟨k0,off0,none⟩ ys.length c cur E (us.take N) hu hs1 hg (by rw [hcl,← hN])
   (fun j u hju=>by
    rw [Addr.add_lit]
    refine hcell2 j u ?_
    rw [List.getElem?_take] at hju
    split at hju
    ·exact hju
    ·cases hju) (by rw [hcl];omega) hone
  rw [← hev,← hyv,hcl] at hrun
  generalize hnc:(cur.toList.take 0++us.take N++cur.toList.drop (0+N))=nl at hrun
  have hown:Own η b k:=.inr (.inl ⟨_,_,q0,qc⟩)
  have hjk:¬ J k:=hr.ok.jd b _ k hb hown
  have hJw:∀ j,J j→(w.setRow k nl.toArray).heap[j]?=w.heap[j]?:=fun j hj=>z8i w k j _ (fun e=>hjk (e ▸ hj))
  have hf:∀ x v,BVr η J w x v→BVr η J (w.setRow k nl.toArray) (id x) v:=fun x v hx=>BVr.mono (fun _ h=>h) hJw (fun _ h _=>⟨h,rfl⟩) hx
  have hmi:min (ys.length:Int) (xs.length:Int)=(N:Int):=by omega
  rw [hmi] at hk
  refine ⟨_,w.setRow k nl.toArray,η,J,⟨s.n,s.m,z5b id s.env,(z99 id s.st).set b (some (.row true ch E 1 (cpy xs ys)))⟩,[.c (.pv (.int .i64 (N:Int)))],hrun0 _ _ hrun,?_,by simpa using ht,(show Rd _ J (.int .i64 (N:Int)) (.int .i64 (N:Int)) from .int _ _),by rw [z7x,zf7];exact hk⟩
  refine hr.turn (o:=.row true ch E 1 xs) ⟨hb,rfl,fun _ h=>h,fun _ _=>rfl,fun _ _=>rfl,fun _ h=>h,rfl,rfl,rfl,by simp,fun j hj hn=>z8i w k j _ (fun e=>hn (e ▸ hown)),hf,fun o' ho'=>?_,fun o' j ho' hj=>⟨.inr hj,fun hJ=>hr.ok.jd b _ j hb hj hJ⟩,fun j hj=>.inl hj⟩
  injection ho' with ho'
  subst ho'
  have hlc:cur.toList.length=cap*1:=by simp [hcs]
  have hnl:nl.length=cap*1:=by
   rw [← hnc];simp only [List.length_append,List.length_take,List.length_drop,hcl,hlc];omega
  have hus:us'=cur.toList.take (xs.length*1):=htake.symm
  refine ⟨⟨hx0,.inr ⟨us.take N++us'.drop N,k,cap,by rw [zni];exact q0,qc,⟨?_,.inr ⟨k,cap,nl.toArray,by rw [q0,zni],Nat.zero_le _,zhi w k _ cur E hg,by rw [zni];exact hle,hml,by simpa using hnl,?_⟩⟩,?_,?_⟩⟩,rfl,fun h=>⟨h,rfl⟩⟩
  ·rw [zni]
   have:=q1.1
   simp only [List.length_append,List.length_take,List.length_drop];omega
  ·rw [zni,hus]
   show nl.take (xs.length*1)=_
   rw [← hnc]
   simp only [List.take_zero,List.nil_append,Nat.zero_add,Nat.mul_one]
   rw [List.take_append,hcl,List.take_of_length_le (by rw [hcl];omega),List.drop_take]
  ·have hR:∀ p v,Rd w J p v→Rd (w.setRow k nl.toArray) J p v:=fun p v h=>Rd.mono (fun _ h=>h) hJw h
   unfold cpy
   rw [hN,List.flatten_append,(zlp hsz N).1,(zlp q3 N).2]
   exact ((hl.take _).append (q2.drop _)).mono hR
  ·intro e he
   unfold cpy at he
   rcases List.mem_append.1 he with h|h
   ·exact hsz e (List.mem_of_mem_take h)
   ·exact q3 e (List.mem_of_mem_drop h)
end
section
variable {P:Program} {G:Nat→Option (List PV)} {ops:Array Oper} {o:Oper} {l:List Oper} {n m t:Nat} {env:List (Nat × List XV)} {st st':z0q} {K:Sx→Prop} {α:Type}
theorem z04o {T U V:TypeId} {x y z:Operand} {k:IntKind} {a1 a2 a3:Int} (ho:o.op=.call { callee:=.builtin .max,args:=#[x,y,z],argTypes:=#[T,U,V] }) (hx:val G env x=some (.c (.pv (.int k a1)))) (hy:val G env y=some (.c (.pv (.int k a2)))) (hz:val G env z=some (.c (.pv (.int k a3)))) :
  LtT P G o ⟨n,m,env,st⟩ [.c (.pv (.int k (max (max a1 a2) a3)))]:=by
 intro E η J a w h
 have h1:=z5i (h.val hx)
 have h2:=z5i (h.val hy)
 have h3:=z5i (h.val hz)
 have e:∀ a b:Int,max a b=if b > a then b else a:=fun a b=>by split <;> omega
 refine ⟨.int k (max (max a1 a2) a3),?_,.int _ _⟩
 rw [e (max a1 a2),e a1]
 simp [execOp,ho,resolve,invoke,builtin,h1,h2,h3,Builtin.max_,Builtin.max2]
theorem z04p {T U V:TypeId} {x y z:Operand} {k:IntKind} {a1 a2 a3:Int} (ho:o.op=.call { callee:=.builtin .min,args:=#[x,y,z],argTypes:=#[T,U,V] }) (hx:val G env x=some (.c (.pv (.int k a1)))) (hy:val G env y=some (.c (.pv (.int k a2)))) (hz:val G env z=some (.c (.pv (.int k a3)))) :
  LtT P G o ⟨n,m,env,st⟩ [.c (.pv (.int k (min (min a1 a2) a3)))]:=by
 intro E η J a w h
 have h1:=z5i (h.val hx)
 have h2:=z5i (h.val hy)
 have h3:=z5i (h.val hz)
 have e:∀ a b:Int,min a b=if b<a then b else a:=fun a b=>by split <;> omega
 refine ⟨.int k (min (min a1 a2) a3),?_,.int _ _⟩
 rw [e (min a1 a2),e a1]
 simp [execOp,ho,resolve,invoke,builtin,h1,h2,h3,Builtin.min_,Builtin.min2]
end
end Go.Proofs.YtimbigpplbbjaaaGreatDoor.Abs

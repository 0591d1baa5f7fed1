/- Abstract states of the machine: slice literals, stores into rows, lifts. -/
import Derived.Test.YtimbigpplbbjaaaGreatDoorAbsH
namespace Go.Proofs.YtimbigpplbbjaaaGreatDoor.Abs
open Go Go.RowKit
set_option linter.unusedVariables false
set_option linter.unusedSimpArgs false
section
variable {P:Program} {G:Nat→Option (List PV)} {o:Oper} {s:Sx} {n m t:Nat} {env:List (Nat × List XV)} {st st':z0q} {K:Sx→Prop}
structure SlF (P:Program) (T E:TypeId) (sz:Nat) (z:Value) (zs:List BV):Prop where
 und:P.underlying T=some (.slice E)
 inf:(P.info? E).map (fun i=>(i.size,i.zero))=some (sz,some z)
 cells:(cv z).bind XV.cells=some zs
def zhl (zs:List BV) (n:Nat):List BV:=(List.range n).map fun i=>(zs[i % zs.length]?).getD .any
theorem run_buildSlice {T E : TypeId} {len sz : Nat} {ps : Array (Nat × Operand)} {ys : List (Nat × XV)} {z : Value} {zs cs : List BV} (ho : o.op = .buildSlice T len ps) (hS : SlF P T E sz z zs) (hz : decide (zs.length = sz ∧ len * sz ≤ 16777216) = true)
    (hp : zg7 G s.env ps.toList = some ys) (hf : zlm (fun i => some (i * sz, sz)) (zhl zs (len * sz)) ys = some cs) {En : En} {η : Hd} {J : Nat → Prop} {a : Act} {w : World} (hr : Rel G En η J s a w) :
    ∃ vs : Array Value, (execOp a.eval o).run P w = .ok (.value (.slice (some ⟨w.heap.size, 0, none⟩) len len)) (w.alloc (.cells vs E)) ∧ L2 (BVr η J w) cs vs.toList := by
  simp only [decide_eq_true_eq] at hz
  obtain ⟨y, hy, hc⟩ : ∃ y, cv z = some y ∧ y.cells = some zs := by
    have := hS.cells
    cases hz : cv z with
    | none => rw [hz] at this; cases this
    | some y => rw [hz] at this; exact ⟨y, rfl, this⟩
  have hzc := (zih η J w z y hy).cells hc
  obtain ⟨i, hi, hi1, hi2⟩ : ∃ i, P.info? E = some i ∧ i.size = sz ∧ i.zero = some z := by
    have := hS.inf
    cases hi : P.info? E with
    | none => rw [hi] at this; cases this
    | some i => rw [hi] at this; simp only [Option.map_some, Option.some.injEq, Prod.mk.injEq] at this; exact ⟨i, rfl, this.1, this.2⟩
  have hzl : z.cells.size = sz := by have := hzc.len; simp at this; omega
  have h0 : L2 (BVr η J w) (zhl zs (len * sz)) (Array.map (fun x => (if len * sz = 0 then #[] else z.cells)[x % (if len * sz = 0 then #[] else z.cells).size]!) (Array.range (len * sz))).toList := by
    refine ⟨by simp [zhl], fun j x v hx hv => ?_⟩
    simp only [zhl, List.getElem?_map, Array.toList_map, Array.toList_range] at hx hv
    have hj : j < len * sz := by
      rcases Nat.lt_or_ge j (len * sz) with h | h
      · exact h
      · rw [List.getElem?_eq_none (by simpa using h)] at hx; cases hx
    rw [List.getElem?_range hj] at hx hv
    simp only [Option.map_some, Option.some.injEq] at hx hv
    have hne : ¬ len * sz = 0 := by omega
    rw [if_neg hne] at hv
    have hsp : 0 < sz := by rcases Nat.eq_zero_or_pos sz with h | h; · subst h; simp at hne
                            · exact h
    have hm : j % sz < zs.length := by rw [hz.1]; exact Nat.mod_lt _ hsp
    rw [hz.1] at hx
    rw [hzl] at hv
    have e1 : zs[j % sz]? = some zs[j % sz] := List.getElem?_eq_getElem hm
    rw [e1] at hx
    simp only [Option.getD_some] at hx
    obtain ⟨v', hv', hR⟩ := hzc.get e1
    have e2 : z.cells[j % sz]? = some v' := by simpa using hv'
    rw [getElem!_def, e2] at hv
    simp only at hv
    rw [← hx, ← hv]; exact hR
  obtain ⟨vs', h1, h2⟩ := zsf h0 (hr.parts hp) hf
  refine ⟨vs', ?_, h2⟩
  have e1 : (Array.map (fun (x : Nat × Operand) => (x.1, a.eval x.2)) ps).toList = ps.toList.map fun p => (p.1, a.eval p.2) := by simp
  rw [← e1] at h1
  have hso : (sizeOf E).run P w = .ok sz w := by simp [sizeOf, typeInfo, hi, hi1]
  have hzv : (zeroValue E).run P w = .ok z w := by simp [zeroValue, typeInfo, hi, hi2]
  have hle : ¬ (len * sz > 2 ^ 24) := by omega
  simp only [execOp, ho, Instr.buildSlice, Sem.run_bind, run_underlying hS.und, Result.andThen_ok, hso, if_neg hle, Sem.run_pure]
  by_cases hn : len * sz = 0
  · rw [if_pos hn] at h1
    rw [if_pos hn]
    simp only [Sem.run_pure, Result.andThen_ok, Sem.run_bind, h1]
    simp [newRow]
  · rw [if_neg hn] at h1
    rw [if_neg hn]
    simp only [Sem.run_pure, Result.andThen_ok, Sem.run_bind, hzv, h1]
    simp [newRow]
def rows (sz:Nat) (xs:List (List PV)):Bool:=xs.all fun x=>x.length==sz
theorem zn0 {sz:Nat}:∀ {xs:List (List PV)},rows sz xs=true→∀ x∈xs,x.length=sz:=fun h x hx=>by
 have:=List.all_eq_true.1 h x hx;simpa using this
theorem zf8 {sz:Nat}:∀ {xs:List (List PV)},(∀ x∈xs,x.length=sz)→xs.flatten.length=xs.length*sz
 | [],_=>by simp
 | x::xs,h=>by
  rw [List.flatten_cons,List.length_append,h x List.mem_cons_self,zf8 (fun y hy=>h y (List.mem_cons_of_mem _ hy)),List.length_cons,Nat.add_mul]
  omega
theorem z011 {T E:TypeId} {len sz:Nat} {ps:Array (Nat × Operand)} {ys:List (Nat × XV)} {z:Value} {zs cs:List BV} {pv:List PV} (xs:List (List PV)) (ho:o.op=.buildSlice T len ps) (hS:SlF P T E sz z zs) (hz:decide (zs.length=sz∧len*sz≤16777216)=true)
  (hp:zg7 G s.env ps.toList=some ys) (hf:zlm (fun i=>some (i*sz,sz)) (zhl zs (len*sz)) ys=some cs) (hv:zje cs=some pv) (hx:xs.flatten=pv) (hl:xs.length=len) (hr:rows sz xs=true):FlT P G o s [.c (.pv (.sl xs))]:=by
 intro E0 η J a w hrel K' Q' hK
 obtain ⟨vs,hrun,hl2⟩:=run_buildSlice ho hS hz hp hf hrel
 unfold Oper.wp
 rw [hrun,Oper.upon_value]
 have hw:∀ k,k<w.heap.size→(w.alloc (.cells vs E)).heap[k]?=w.heap[k]?:=fun k hk=>heap_alloc_old w _ k hk
 have hpv:=zgp hv hl2
 refine hK _ _ (fun k=>J k∨k=w.heap.size) ⟨fun _ h=>.inl h,rfl,rfl,rfl,by simp,hw,fun k hk=>hk.imp id (fun h=>by omega),fun k hk=>?_⟩ ?_
 ·rcases hk with hk|hk
  ·have:=hrel.ok.jlt k hk;simp;omega
  ·simp;omega
 ·show Rd _ _ (.sl xs) _
  by_cases h0:xs=[]
  ·subst h0
   simp only [List.length_nil] at hl
   subst hl
   exact .nil _ _
  ·rw [← hl]
   have hat:∀ (i:Nat) (x:List PV) (j:Nat) (p:PV),xs[i]?=some x→x[j]?=some p→∃ u,vs[i*sz+j]?=some u∧Rd w J p u:=fun i x j p hx' hp'=>by
    have h5:=z70 (zn0 hr) hx' hp'
    rw [hx] at h5
    obtain ⟨u,hu,hR⟩:=hpv.get h5
    exact ⟨u,by simpa using hu,hR⟩
   refine .sl xs sz w.heap.size 0 xs.length (fun i j=>(vs[i*sz+j]?).getD undef) h0 (.inr rfl) (Nat.le_refl _) (fun i x hx'=>zn0 hr x (List.mem_of_getElem? hx')) (fun i x j p hx' hp'=>?_) (fun i x j p hx' hp'=>?_)
   ·obtain ⟨u,hu,_⟩:=hat i x j p hx' hp'
    simp only [World.cell?,heap_alloc_new,Nat.zero_add,hu,Option.getD_some]
    rfl
   ·obtain ⟨u,hu,hR⟩:=hat i x j p hx' hp'
    rw [hu]
    exact Rd.mono (fun _ h=>.inl h) (fun k hk=>hw k (hrel.ok.jlt k hk)) hR
theorem z02u {x:List XV} {b:Nat} {ob:Obj'} (hd:o.dst=some t) (ht:decide (t<n)=true) (h:BirT P G o ⟨n,m,env,st⟩ b ob x) (hb:st.length=b) (hs:st++[some ob]=st') (hk:K ⟨n,m,(t,x)::env,st'⟩):OpT P G o ⟨n,m,env,st⟩ K:=by
 subst hb;subst hs
 refine zmj hd fun E η J a w hr=>?_
 obtain ⟨v,w',hrun,q1,q2,q3,q4,q5,q6⟩:=h E η J a w hr
 obtain ⟨q7,q8,q9⟩:=q6 (fun h'=>by have:=hr.ok.len _ h';simp at this)
 exact ⟨v,w',_,J,⟨n,m,env,st++[some ob]⟩,x,hrun,hr.new q1 q2 q3 q4 q5 q7 q8,by simpa using ht,q9,hk⟩
theorem z04c {T:TypeId} {x:Operand} {y:XV} {cs:List BV} {b:Nat} (ho:o.op=.box T x) (hx:val G s.env x=some y) (hc:y.cells=some cs):BirT P G o s b (.box true T cs) [.c (.box b 0)]:=by
 intro E η J a w hr
 have hl:=(hr.val hx).cells hc
 have hw:∀ k,k<w.heap.size→(w.alloc (.cells (a.eval x).cells T)).heap[k]?=w.heap[k]?:=fun k hk=>heap_alloc_old w _ k hk
 refine ⟨.pointer (some ⟨w.heap.size,0,none⟩),w.alloc (.cells (a.eval x).cells T),by simp [execOp,ho,Instr.box,newVar,newRow],rfl,rfl,rfl,by simp,hw,fun hd=>⟨fun k hk=>zbo (.inl rfl) k hk,⟨Hd.push_x,w.heap.size,(a.eval x).cells,Hd.push_n,heap_alloc_new w _,?_⟩,.inr rfl,w.heap.size,Hd.push_n,rfl⟩⟩
 exact hl.mono (fun x u hx=>BVr.push hd (fun k hk=>hw k (hr.ok.jlt k hk)) hx)
theorem zxt {T:TypeId} {z:Value} {y:XV} {cs:List BV} {b:Nat} (ho:o.op=.alloc T) (hz:(P.info? T).bind (·.zero)=some z) (hy:cv z=some y) (hc:y.cells=some cs):BirT P G o s b (.box true T cs) [.c (.box b 0)]:=by
 intro E η J a w hr
 have hl:=(zih η J w z y hy).cells hc
 have hw:∀ k,k<w.heap.size→(w.alloc (.cells z.cells T)).heap[k]?=w.heap[k]?:=fun k hk=>heap_alloc_old w _ k hk
 refine ⟨.pointer (some ⟨w.heap.size,0,none⟩),w.alloc (.cells z.cells T),?_,rfl,rfl,rfl,by simp,hw,fun hd=>⟨fun k hk=>zbo (.inl rfl) k hk,⟨Hd.push_x,w.heap.size,z.cells,Hd.push_n,heap_alloc_new w _,?_⟩,.inr rfl,w.heap.size,Hd.push_n,rfl⟩⟩
 ·cases hi:P.info? T with
  | none=>rw [hi] at hz;cases hz
  | some i =>
   rw [hi] at hz
   simp only [Option.bind_some] at hz
   simp [execOp,ho,Instr.alloc,newVar,newRow,zeroValue,typeInfo,hi,hz]
 ·exact hl.mono (fun x u hx=>BVr.push hd (fun k hk=>hw k (hr.ok.jlt k hk)) hx)
theorem zxu {T E:TypeId} {len sz:Nat} {ps:Array (Nat × Operand)} {ys:List (Nat × XV)} {z:Value} {zs cs:List BV} {pv:List PV} {b:Nat} (xs:List (List PV)) (ho:o.op=.buildSlice T len ps) (hS:SlF P T E sz z zs) (hz:decide (zs.length=sz∧len*sz≤16777216)=true)
  (hn:decide (len≤16777216)=true) (hp:zg7 G s.env ps.toList=some ys) (hf:zlm (fun i=>some (i*sz,sz)) (zhl zs (len*sz)) ys=some cs) (hv:zje cs=some pv) (hx:xs.flatten=pv) (hl:xs.length=len) (hr:rows sz xs=true) :
  BirT P G o s b (.row true false E sz xs) [.c (.row b)]:=by
 intro E0 η J a w hrel
 obtain ⟨vs,hrun,hl2⟩:=run_buildSlice ho hS hz hp hf hrel
 have hw:∀ k,k<w.heap.size→(w.alloc (.cells vs E)).heap[k]?=w.heap[k]?:=fun k hk=>heap_alloc_old w _ k hk
 have hpv:=zgp hv hl2
 refine ⟨_,_,hrun,rfl,rfl,rfl,by simp,hw,fun hd=>⟨fun k hk=>zbo (.inr ⟨_,_,rfl⟩) k hk,?_,.inr rfl,Hd.push_n.symm,rfl⟩⟩
 refine ⟨Hd.push_x,?_⟩
 by_cases h0:len=0
 ·subst h0
  exact .inl ⟨List.eq_nil_of_length_eq_zero hl,_,Hd.push_n⟩
 ·have hfl:=zf8 (zn0 hr)
  have hvl:vs.size=len*sz:=by rw [← hl,← hfl,hx,hpv.len];simp
  refine .inr ⟨vs.toList,w.heap.size,len,by rw [hl];exact Hd.push_n,by omega,⟨by simp [hvl,hl],.inr ⟨w.heap.size,len,vs,by rw [Hd.push_n,hl],Nat.zero_le _,heap_alloc_new w _,by omega,?_,hvl,?_⟩⟩,?_,zn0 hr⟩
  ·have:maxLen=9223372036854775807:=by decide
   simp only [decide_eq_true_eq] at hn
   omega
  ·rw [hl,List.take_of_length_le (by simp [hvl])]
  ·rw [hx];exact hpv.mono (fun p v h=>Rd.mono (fun _ h=>h) (fun k hk=>hw k (hrel.ok.jlt k hk)) h)
def putP (e:List PV) (off:Nat) (ps:List PV):List PV:=e.take off++ps++e.drop (off+ps.length)
theorem zue {sz:Nat}:∀ {xs:List (List PV)} {i:Nat} {e e':List PV} (_:∀ x∈xs,x.length=sz) (_:xs[i]?=some e),(xs.set i e').flatten=xs.flatten.take (i*sz)++e'++xs.flatten.drop (i*sz+sz)
 | [],i,e,e',h,hi=>by simp at hi
 | x::xs,0,e,e',h,hi=>by
  have hx:=h x List.mem_cons_self
  simp only [List.set_cons_zero,List.flatten_cons,Nat.zero_mul,List.take_zero,List.nil_append,Nat.zero_add]
  rw [← hx,List.drop_left]
 | x::xs,i+1,e,e',h,hi=>by
  have hx:=h x List.mem_cons_self
  have ih:=zue (e':=e') (fun y hy=>h y (List.mem_cons_of_mem _ hy)) (by simpa using hi:xs[i]?=some e)
  have e1:(i+1)*sz=x.length+i*sz:=by rw [hx,Nat.add_mul];omega
  rw [List.set_cons_succ,List.flatten_cons,List.flatten_cons,ih,e1,List.take_length_add_append,Nat.add_assoc,List.drop_length_add_append]
  simp only [List.append_assoc]
theorem zpj {sz:Nat} {xs:List (List PV)} {i off:Nat} {e ps:List PV} (h:∀ x∈xs,x.length=sz) (hi:xs[i]?=some e) (hf:off+ps.length≤sz) :
  (xs.set i (putP e off ps)).flatten=xs.flatten.take (i*sz+off)++ps++xs.flatten.drop (i*sz+off+ps.length):=by
 have he:=h e (List.mem_of_getElem? hi)
 rw [zue h hi]
 have hseg:∀ j,j<sz→xs.flatten[i*sz+j]?=e[j]?:=fun j hj=>by
  rw [List.getElem?_eq_getElem (l:=e) (by omega)]
  exact z70 h hi (List.getElem?_eq_getElem (by omega))
 have hfl:i*sz+sz≤xs.flatten.length:=by
  have h1:xs.flatten[i*sz+(sz - 1)]?=e[sz - 1]?∨sz=0:=by
   rcases Nat.eq_zero_or_pos sz with h0|h0
   ·exact .inr h0
   ·exact .inl (hseg _ (by omega))
  rw [zf8 h]
  have hil:=(List.getElem?_eq_some_iff.1 hi).1
  calc i*sz+sz=(i+1)*sz:=by rw [Nat.add_mul];omega
   _≤xs.length*sz:=Nat.mul_le_mul_right _ hil
 unfold putP
 apply List.ext_getElem?
 intro j
 simp only [List.getElem?_append,List.length_append,List.length_take,List.length_drop,List.getElem?_take,List.getElem?_drop]
 have m1:min (i*sz) xs.flatten.length=i*sz:=by omega
 have m2:min off e.length=off:=by omega
 have m3:min (i*sz+off) xs.flatten.length=i*sz+off:=by omega
 rw [m1,m2,m3]
 by_cases c1:j<i*sz
 ·have c2:j<i*sz+(off+ps.length+(e.length - (off+ps.length))):=by omega
  have c3:j<i*sz+off+ps.length:=by omega
  have c4:j<i*sz+off:=by omega
  simp [c1,c2,c3,c4]
 ·by_cases c2:j<i*sz+off
  ·have c3:j<i*sz+(off+ps.length+(e.length - (off+ps.length))):=by omega
   have c4:j - i*sz<off+ps.length:=by omega
   have c5:j - i*sz<off:=by omega
   have c6:j<i*sz+off+ps.length:=by omega
   simp only [c1,c2,c3,c4,c5,c6,if_true,if_false]
   rw [← hseg _ (by omega),show i*sz+(j - i*sz)=j by omega]
  ·by_cases c3:j<i*sz+off+ps.length
   ·have c4:j<i*sz+(off+ps.length+(e.length - (off+ps.length))):=by omega
    have c5:j - i*sz<off+ps.length:=by omega
    have c6:¬ j - i*sz<off:=by omega
    simp only [c1,c2,c3,c4,c5,c6,if_true,if_false]
    rw [show j - i*sz - off=j - (i*sz+off) by omega]
   ·by_cases c4:j<i*sz+sz
    ·have c5:j<i*sz+(off+ps.length+(e.length - (off+ps.length))):=by omega
     have c6:¬ j - i*sz<off+ps.length:=by omega
     simp only [c1,c2,c3,c5,c6,if_true,if_false]
     rw [show off+ps.length+(j - i*sz - (off+ps.length))=j - i*sz by omega,← hseg _ (by omega),show i*sz+(j - i*sz)=i*sz+off+ps.length+(j - (i*sz+off+ps.length)) by omega]
    ·have c5:¬ j<i*sz+(off+ps.length+(e.length - (off+ps.length))):=by omega
     simp only [c3,c5,if_false]
     rw [show i*sz+sz+(j - (i*sz+(off+ps.length+(e.length - (off+ps.length)))))=i*sz+off+ps.length+(j - (i*sz+off+ps.length)) by omega]
end
end Go.Proofs.YtimbigpplbbjaaaGreatDoor.Abs

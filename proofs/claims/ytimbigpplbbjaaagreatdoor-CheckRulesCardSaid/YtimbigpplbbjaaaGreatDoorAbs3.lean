/- Abstract states of the machine: operations that look at memory and at parts of values. -/
import Derived.Test.YtimbigpplbbjaaaGreatDoorAbs2
import Derived.Laws.StructEq
namespace Go.Proofs.YtimbigpplbbjaaaGreatDoor.Abs
open Go Go.RowKit
set_option linter.unusedVariables false
set_option linter.unusedSimpArgs false
section
variable {P:Program} {G:Nat→Option (List PV)}
def aggr:TypeDesc→Bool
 | .struct _|.array _ _=>true
 | _=>false
structure Ty (P:Program) (T:TypeId) (agg:Bool) (sz:Nat):Prop where
 und:(P.underlying T).map aggr=some agg
 inf:(P.info? T).map (·.size)=some sz
def zn8 (i:Nat):TypeDesc→Option (Nat × TypeId)
 | .struct fs=>(fs[i]?).map fun f=>(f.offset,f.type)
 | _=>none
structure zn9 (P:Program) (S:TypeId) (i off:Nat) (ft:TypeId):Prop where
 und:(P.underlying S).bind (zn8 i)=some (off,ft)
theorem z5c {T:TypeId} {agg:Bool} {sz:Nat} (h:Ty P T agg sz) (w:World):(sizeOf T).run P w=.ok sz w:=by
 have:=h.inf
 cases hi:P.info? T with
 | none=>rw [hi] at this;cases this
 | some i=>rw [hi] at this;simp only [Option.map_some,Option.some.injEq] at this;simp [sizeOf,typeInfo,hi,this]
theorem zed {T:TypeId} {agg:Bool} {sz:Nat} (h:Ty P T agg sz) (w:World):(isAgg T).run P w=.ok agg w:=by
 have:=h.und
 cases hi:P.underlying T with
 | none=>rw [hi] at this;cases this
 | some d =>
  rw [hi] at this;simp only [Option.map_some,Option.some.injEq] at this
  unfold isAgg
  rw [Sem.run_bind,run_underlying hi w]
  cases d <;> simp_all [aggr]
theorem zg5 {T:TypeId} {sz:Nat} (h:Ty P T false sz) {w:World} {a:Addr} {v:Value} (hc:w.cell? a=some v):(loadVar T a).run P w=.ok v w:=by
 simp [loadVar,Sem.run_bind,zed h,hc]
theorem zhg {T:TypeId} {sz:Nat} (h:Ty P T true sz) {w:World} {k off:Nat} (us:List Value) (hl:us.length=sz)
  (hc:∀ (j:Nat) (u:Value),us[j]?=some u→w.cell? ⟨k,off+j,none⟩=some u):(loadVar T ⟨k,off,none⟩).run P w=.ok (.agg us.toArray) w:=by
 have hr:=run_loadCells_list (P:=P) w ⟨k,off,none⟩ us (fun j v hv=>by rw [Addr.add_lit];exact hc j v hv)
 subst hl
 simp [loadVar,Sem.run_bind,zed h,z5c h,hr]
theorem Rel.box {E:En} {η:Hd} {J:Nat→Prop} {s:Sx} {a:Act} {w:World} (h:Rel G E η J s a w) {b:Nat} {m:Bool} {T:TypeId} {cs:List BV} (hb:s.st[b]?=some (some (.box m T cs))) :
  ∃ (k:Nat) (vs:List Value),η.f b=.pointer (some ⟨k,0,none⟩)∧(∀ (j:Nat) (u:Value),vs[j]?=some u→w.cell? ⟨k,j,none⟩=some u)∧L2 (BVr η J w) cs vs:=by
 obtain ⟨_,k,vs,h1,h2,h3⟩:=h.ok.obj b _ hb
 exact ⟨k,vs.toList,h1,fun j u hu=>by rw [cell_of_row w k j vs T (0,0) h2];simpa using hu,h3⟩
theorem Rel.row {E:En} {η:Hd} {J:Nat→Prop} {s:Sx} {a:Act} {w:World} (h:Rel G E η J s a w) {b:Nat} {m ch:Bool} {T:TypeId} {sz:Nat} {xs:List (List PV)} (hb:s.st[b]?=some (some (.row m ch T sz xs))) :
  (xs=[]∧∃ A,η.f b=.slice A 0 0)∨∃ us:List Value,∃ k cap,η.f b=.slice (some ⟨k,0,none⟩) xs.length cap∧L2 (Rd w J) xs.flatten us∧(∀ x∈xs,x.length=sz) ∧
   ∀ (j:Nat) (u:Value),us[j]?=some u→w.cell? ⟨k,j,none⟩=some u:=by
 rcases (h.ok.obj b _ hb).2 with h0|⟨us,k,cap,h0,hc,h1,h2,h3⟩
 ·exact .inl h0
 ·refine .inr ⟨us,k,cap,h0,h2,h3,fun j u hu=>?_⟩
  have:=h1.cells (g:=k) (by rw [h0];rfl) j u hu
  rwa [Addr.add_lit,Nat.zero_add] at this
theorem z70 {sz:Nat}:∀ {xs:List (List PV)} (_:∀ x∈xs,x.length=sz) {i j:Nat} {e:List PV} {p:PV} (_:xs[i]?=some e) (_:e[j]?=some p),xs.flatten[i*sz+j]?=some p
 | [],_,i,j,e,p,hi,_=>by simp at hi
 | x::xs,h,0,j,e,p,hi,hj=>by
  simp at hi;subst hi
  rw [Nat.zero_mul,Nat.zero_add,List.flatten_cons,List.getElem?_append_left (List.getElem?_eq_some_iff.1 hj).1]
  exact hj
 | x::xs,h,i+1,j,e,p,hi,hj=>by
  have hx:=h x List.mem_cons_self
  rw [List.flatten_cons,List.getElem?_append_right (by rw [hx,Nat.add_mul];omega),hx]
  have:(i+1)*sz+j - sz=i*sz+j:=by rw [Nat.add_mul];omega
  rw [this]
  exact z70 (fun y hy=>h y (List.mem_cons_of_mem _ hy)) (by simpa using hi) hj
variable {s:Sx} {o:Oper}
theorem zna {T T0:TypeId} {x:Operand} {b off sz:Nat} {m:Bool} {cs:List BV} {y:BV} (ho:o.op=.load T x) (hT:Ty P T false sz) (hx:val G s.env x=some (.c (.box b off)))
  (hb:s.st[b]?=some (some (.box m T0 cs))) (hy:cs[off]?=some y):LtT P G o s [.c y]:=by
 intro E η J a w h
 obtain ⟨k,vs,h1,h2,h3⟩:=h.box hb
 obtain ⟨_,k',h4,h5⟩:=h.val hx
 rw [h1] at h4;injection h4 with h4;injection h4 with h4;injection h4 with h4;subst h4
 obtain ⟨u,h6,h7⟩:=h3.get hy
 exact ⟨u,by simp [execOp,ho,h5,Instr.loadAt,Instr.sureAddr,zg5 hT (h2 off u h6)],h7⟩
theorem zmi {T T0:TypeId} {x:Operand} {b off sz:Nat} {m:Bool} {cs ys:List BV} (ho:o.op=.load T x) (hT:Ty P T true sz) (hx:val G s.env x=some (.c (.box b off)))
  (hb:s.st[b]?=some (some (.box m T0 cs))) (hy:(cs.drop off).take sz=ys) (hl:ys.length=sz):LtT P G o s [.agg ys]:=by
 intro E η J a w h
 obtain ⟨k,vs,h1,h2,h3⟩:=h.box hb
 obtain ⟨_,k',h4,h5⟩:=h.val hx
 rw [h1] at h4;injection h4 with h4;injection h4 with h4;injection h4 with h4;subst h4
 have h6:=(h3.drop off).take sz
 rw [hy] at h6
 refine ⟨.agg ((vs.drop off).take sz).toArray,?_,⟨_,rfl,h6⟩⟩
 have hr:=zhg hT (w:=w) (k:=k) (off:=off) ((vs.drop off).take sz) (by rw [← h6.len,hl]) (fun j u hu=>by
  refine h2 (off+j) u ?_
  rw [List.getElem?_take] at hu
  split at hu
  ·rwa [List.getElem?_drop] at hu
  ·cases hu)
 simp [execOp,ho,h5,Instr.loadAt,Instr.sureAddr,hr]
theorem zvu {T:TypeId} {x:Operand} {sz:Nat} {p:PV} {ps:List PV} (ho:o.op=.load T x) (hT:Ty P T false sz) (hx:val G s.env x=some (.c (.ep (p::ps)))):LtT P G o s [.c (.pv p)]:=by
 intro E η J a w h
 obtain ⟨k,off,us,hj,h5,hl,hc⟩:=h.val hx
 obtain ⟨u,us,rfl,h6,h7⟩:=hl.uncons
 have:=hc 0 u rfl
 rw [Nat.add_zero] at this
 exact ⟨u,by simp [execOp,ho,h5,Instr.loadAt,Instr.sureAddr,zg5 hT this],h6⟩
theorem zs6 {T:TypeId} {x:Operand} {sz:Nat} {ps:List PV} {ys:List BV} (ho:o.op=.load T x) (hT:Ty P T true sz) (hx:val G s.env x=some (.c (.ep ps))) (hl:sz≤ps.length)
  (hy:(ps.take sz).map .pv=ys):LtT P G o s [.agg ys]:=by
 intro E η J a w h
 obtain ⟨k,off,us,hj,h5,hl',hc⟩:=h.val hx
 have hr:=zhg hT (w:=w) (k:=k) (off:=off) (us.take sz) (by rw [List.length_take,← hl'.len];omega) (fun j u hu=>by
  rw [List.getElem?_take] at hu
  split at hu
  ·exact hc j u hu
  ·cases hu)
 subst hy
 refine ⟨.agg (us.take sz).toArray,by simp [execOp,ho,h5,Instr.loadAt,Instr.sureAddr,hr],⟨_,rfl,?_⟩⟩
 have h8:=hl'.take sz
 exact ⟨by simpa using h8.len,fun i x y hx hy=>by
  rw [List.getElem?_map] at hx
  cases hi:(ps.take sz)[i]? with
  | none=>rw [hi] at hx;cases hx
  | some z=>rw [hi] at hx;injection hx with hx;subst hx;exact h8.at_ i z y hi hy⟩
theorem zvv {T T0:TypeId} {x:Operand} {b i off sz sz':Nat} {m ch:Bool} {xs:List (List PV)} {e:List PV} {p:PV} (ho:o.op=.load T x) (hT:Ty P T false sz') (hx:val G s.env x=some (.c (.rp b sz i off)))
  (hb:s.st[b]?=some (some (.row m ch T0 sz xs))) (he:xs[i]?=some e) (hp:e[off]?=some p):LtT P G o s [.c (.pv p)]:=by
 intro E η J a w h
 obtain ⟨_,k,n,cap,h5,h6⟩:=h.val hx
 rcases h.row hb with ⟨h0,_⟩|⟨us,k',cap',h1,h2,h3,h4⟩
 ·rw [h0] at he;cases he
 rw [h1] at h5;injection h5 with h5;injection h5 with h5;injection h5 with h5;subst h5
 obtain ⟨u,h7,h8⟩:=h2.get (z70 h3 he hp)
 exact ⟨u,by simp [execOp,ho,h6,Instr.loadAt,Instr.sureAddr,zg5 hT (h4 _ u h7)],h8⟩
theorem zs7 {T T0:TypeId} {x:Operand} {b i off sz sz':Nat} {m ch:Bool} {xs:List (List PV)} {e:List PV} {ys:List BV} (ho:o.op=.load T x) (hT:Ty P T true sz') (hx:val G s.env x=some (.c (.rp b sz i off)))
  (hb:s.st[b]?=some (some (.row m ch T0 sz xs))) (he:xs[i]?=some e) (hl:off+sz'≤e.length) (hy:((e.drop off).take sz').map .pv=ys):LtT P G o s [.agg ys]:=by
 intro E η J a w h
 obtain ⟨_,k,n,cap,h5,h6⟩:=h.val hx
 rcases h.row hb with ⟨h0,_⟩|⟨us,k',cap',h1,h2,h3,h4⟩
 ·rw [h0] at he;cases he
 rw [h1] at h5;injection h5 with h5;injection h5 with h5;injection h5 with h5;subst h5
 subst hy
 have key:∀ (j:Nat) (p:PV),((e.drop off).take sz')[j]?=some p→∃ u,((us.drop (i*sz+off)).take sz')[j]?=some u∧Rd w J p u:=by
  intro j p hp
  rw [List.getElem?_take] at hp
  split at hp
  ·rename_i hj
   rw [List.getElem?_drop] at hp
   obtain ⟨u,h7,h8⟩:=h2.get (z70 h3 he hp)
   refine ⟨u,?_,h8⟩
   rw [List.getElem?_take,if_pos hj,List.getElem?_drop,Nat.add_assoc];exact h7
  ·cases hp
 have hlen:((us.drop (i*sz+off)).take sz').length=sz':=by
  rcases Nat.eq_zero_or_pos sz' with h0|h0
  ·subst h0;simp
  ·have hlast:((e.drop off).take sz')[sz' - 1]?=some (((e.drop off).take sz')[sz' - 1]'(by simp;omega)):=List.getElem?_eq_getElem _
   obtain ⟨u,hu,_⟩:=key _ _ hlast
   have:=(List.getElem?_eq_some_iff.1 hu).1
   simp only [List.length_take,List.length_drop] at this ⊢
   omega
 have hr:=zhg hT (w:=w) (k:=k') (off:=i*sz+off) ((us.drop (i*sz+off)).take sz') hlen (fun j u hu=>by
  rw [List.getElem?_take] at hu
  split at hu
  ·rw [List.getElem?_drop] at hu;exact h4 _ u hu
  ·cases hu)
 refine ⟨.agg ((us.drop (i*sz+off)).take sz').toArray,by simp [execOp,ho,h6,Instr.loadAt,Instr.sureAddr,hr],⟨_,rfl,?_⟩⟩
 refine ⟨by rw [hlen];simp;omega,fun j x y hx hy=>?_⟩
 rw [List.getElem?_map] at hx
 cases hi:((e.drop off).take sz')[j]? with
 | none=>rw [hi] at hx;cases hx
 | some z =>
  rw [hi] at hx;injection hx with hx;subst hx
  obtain ⟨u,hu,hR⟩:=key j z hi
  rw [hu] at hy;injection hy with hy;subst hy;exact hR
theorem zjc {S ft:TypeId} {i fo sz:Nat} {agg:Bool} (hF:zn9 P S i fo ft) (hT:Ty P ft agg sz) (hz:sz≠0) (w:World) (k off:Nat) :
  (Instr.fieldAt S (.pointer (some ⟨k,off,none⟩)) i).run P w=.ok (.pointer (some ⟨k,off+fo,none⟩)) w:=by
 have:=hF.und
 cases hu:P.underlying S with
 | none=>rw [hu] at this;cases this
 | some d =>
  rw [hu] at this
  simp only [Option.bind_some] at this
  cases d <;> simp only [zn8,reduceCtorEq] at this
  rename_i fs
  cases hf:fs[i]? with
  | none=>rw [hf] at this;cases this
  | some f =>
   rw [hf] at this
   simp only [Option.map_some,Option.some.injEq,Prod.mk.injEq] at this
   obtain ⟨h1,h2⟩:=this
   subst h1;subst h2
   simp [Instr.fieldAt,run_underlying hu,hf,Instr.sureAddr,fieldPlace,z5c hT,hz,Addr.add_lit]
theorem zxe {S ft:TypeId} {x:Operand} {i b off fo sz:Nat} {agg:Bool} (ho:o.op=.fieldAddr S x i) (hF:zn9 P S i fo ft) (hT:Ty P ft agg sz) (hz:sz≠0) (hx:val G s.env x=some (.c (.box b off))) :
  LtT P G o s [.c (.box b (off+fo))]:=by
 intro E η J a w h
 obtain ⟨h0,k,h1,h2⟩:=h.val hx
 exact ⟨.pointer (some ⟨k,off+fo,none⟩),by simp [execOp,ho,h2,zjc hF hT hz],h0,k,h1,rfl⟩
theorem z00n {S ft:TypeId} {x:Operand} {i fo sz:Nat} {agg:Bool} {ps qs:List PV} (ho:o.op=.fieldAddr S x i) (hF:zn9 P S i fo ft) (hT:Ty P ft agg sz) (hz:sz≠0) (hx:val G s.env x=some (.c (.ep ps)))
  (hq:ps.drop fo=qs):LtT P G o s [.c (.ep qs)]:=by
 intro E η J a w h
 obtain ⟨k,off,us,hj,h5,hl,hc⟩:=h.val hx
 subst hq
 exact ⟨.pointer (some ⟨k,off+fo,none⟩),by simp [execOp,ho,h5,zjc hF hT hz],k,off+fo,us.drop fo,hj,rfl,hl.drop fo,fun j u hu=>by
  rw [List.getElem?_drop] at hu;rw [Nat.add_assoc];exact hc _ u hu⟩
theorem z00o {S ft:TypeId} {x:Operand} {i b sz' e off fo sz:Nat} {agg:Bool} (ho:o.op=.fieldAddr S x i) (hF:zn9 P S i fo ft) (hT:Ty P ft agg sz) (hz:sz≠0) (hx:val G s.env x=some (.c (.rp b sz' e off))) :
  LtT P G o s [.c (.rp b sz' e (off+fo))]:=by
 intro E η J a w h
 obtain ⟨h0,k,n,cap,h1,h2⟩:=h.val hx
 exact ⟨.pointer (some ⟨k,e*sz' + off+fo,none⟩),by simp [execOp,ho,h2,zjc hF hT hz],h0,k,n,cap,h1,by rw [Nat.add_assoc]⟩
theorem z00p {T e:TypeId} {x ix:Operand} {k:IntKind} {n:Int} {sz:Nat} {agg:Bool} {xs:List (List PV)} {y:List PV} (ho:o.op=.indexAddr T x ix) (hu:P.underlying T=some (.slice e)) (hT:Ty P e agg sz)
  (hx:val G s.env x=some (.c (.pv (.sl xs)))) (hi:val G s.env ix=some (.c (.pv (.int k n)))) (h0:0≤n) (hy:xs[n.toNat]?=some y) (hl:y.length=sz):LtT P G o s [.c (.ep y)]:=by
 intro E η J a w h
 have h2:=z5i (h.val hi)
 have h1:Rd w J (.sl xs) (a.eval x):=h.val hx
 have hlt:n.toNat<xs.length:=(List.getElem?_eq_some_iff.1 hy).1
 generalize hv:a.eval x=v at h1
 cases h1 with
 | nil A cap=>simp at hlt
 | sl xs sz' blk off cap us hne hJ hc q1 q2 q3 =>
  have hs:sz'=sz:=by rw [← hl];exact (q1 _ y hy).symm
  subst hs
  refine ⟨.pointer (some ⟨blk,off+n.toNat*sz',none⟩),?_,blk,off+n.toNat*sz',(List.range y.length).map (us n.toNat),hJ,rfl,⟨by simp,fun j p u hp hu'=>?_⟩,fun j u hu'=>?_⟩
  ·have hlt':0≤n∧n<(xs.length:Int):=⟨h0,by omega⟩
   simp [execOp,ho,h2,hv,Instr.indexAt,run_underlying hu,asIntOf,hlt',z5c hT,Addr.add_lit]
  ·rw [List.getElem?_map] at hu'
   have hj:j<y.length:=(List.getElem?_eq_some_iff.1 hp).1
   rw [List.getElem?_range hj] at hu'
   injection hu' with hu'
   subst hu'
   exact q3 _ y j p hy hp
  ·rw [List.getElem?_map] at hu'
   cases hj:(List.range y.length)[j]? with
   | none=>rw [hj] at hu';cases hu'
   | some j' =>
    rw [hj] at hu'
    injection hu' with hu'
    have hj2:=List.getElem?_eq_some_iff.1 hj
    obtain ⟨hj3,hj4⟩:=hj2
    simp at hj3 hj4
    subst hj4
    subst hu'
    rw [Nat.add_assoc]
    exact q2 _ y j y[j] hy (List.getElem?_eq_getElem hj3)
theorem zxf {T e T0:TypeId} {x ix:Operand} {k:IntKind} {n:Int} {b sz:Nat} {agg m ch:Bool} {xs:List (List PV)} (ho:o.op=.indexAddr T x ix) (hu:P.underlying T=some (.slice e)) (hT:Ty P e agg sz)
  (hx:val G s.env x=some (.c (.row b))) (hb:s.st[b]?=some (some (.row m ch T0 sz xs))) (hi:val G s.env ix=some (.c (.pv (.int k n)))) (h0:0≤n) (h1:n<xs.length):LtT P G o s [.c (.rp b sz n.toNat 0)]:=by
 intro E η J a w h
 have h2:=z5i (h.val hi)
 obtain ⟨hn0,hv,_⟩:=h.val hx
 rcases h.row hb with ⟨q0,_⟩|⟨us,g,c,q5,q2,q3,q4⟩
 ·rw [q0] at h1;simp at h1;omega
 ·refine ⟨.pointer (some ⟨g,n.toNat*sz,none⟩),?_,hn0,g,_,_,q5,rfl⟩
  simp [execOp,ho,h2,hv,q5,Instr.indexAt,run_underlying hu,asIntOf,h0,h1,z5c hT,Addr.add_lit]
theorem zqi {T e:TypeId} {x ix:Operand} {k:IntKind} {n:Int} {b off len sz:Nat} {agg:Bool} (ho:o.op=.indexAddr T x ix) (hu:P.underlying T=some (.array len e)) (hT:Ty P e agg sz)
  (hx:val G s.env x=some (.c (.box b off))) (hi:val G s.env ix=some (.c (.pv (.int k n)))) (h0:0≤n) (h1:n<len):LtT P G o s [.c (.box b (off+n.toNat*sz))]:=by
 intro E η J a w h
 have h2:=z5i (h.val hi)
 obtain ⟨hn0,g,h3,h4⟩:=h.val hx
 refine ⟨.pointer (some ⟨g,off+n.toNat*sz,none⟩),?_,hn0,g,h3,rfl⟩
 simp [execOp,ho,h2,h4,Instr.indexAt,Instr.sureAddr,run_underlying hu,asIntOf,h0,h1,z5c hT,Addr.add_lit]
theorem zs8 {T e:TypeId} {x ix:Operand} {k:IntKind} {n:Int} {len sz:Nat} {agg:Bool} {ps qs:List PV} (ho:o.op=.indexAddr T x ix) (hu:P.underlying T=some (.array len e)) (hT:Ty P e agg sz)
  (hx:val G s.env x=some (.c (.ep ps))) (hi:val G s.env ix=some (.c (.pv (.int k n)))) (h0:0≤n) (h1:n<len) (hq:ps.drop (n.toNat*sz)=qs):LtT P G o s [.c (.ep qs)]:=by
 intro E η J a w h
 have h2:=z5i (h.val hi)
 obtain ⟨g,off,us,hj,h4,hl,hc⟩:=h.val hx
 subst hq
 refine ⟨.pointer (some ⟨g,off+n.toNat*sz,none⟩),?_,g,off+n.toNat*sz,us.drop (n.toNat*sz),hj,rfl,hl.drop _,fun j u hu'=>?_⟩
 ·simp [execOp,ho,h2,h4,Instr.indexAt,Instr.sureAddr,run_underlying hu,asIntOf,h0,h1,z5c hT,Addr.add_lit]
 ·rw [List.getElem?_drop] at hu';rw [Nat.add_assoc];exact hc _ u hu'
theorem zjd {x:Operand} {y:BV} (ho:o.op=.nilCheck x) (hx:val G s.env x=some (.c y)) (hy:match y with|.box _ _|.ep _|.rp _ _ _ _=>True|_=>False):LtT P G o s [.c y]:=by
 intro E η J a w h
 have h1:=h.val hx
 refine ⟨a.eval x,?_,h1⟩
 have:∃ ad,a.eval x=.pointer (some ad):=by
  cases y <;> simp only at hy
  ·obtain ⟨_,k,_,h2⟩:=h1;exact ⟨_,h2⟩
  ·obtain ⟨k,off,us,_,h2,_⟩:=h1;exact ⟨_,h2⟩
  ·obtain ⟨_,k,n,cap,_,h2⟩:=h1;exact ⟨_,h2⟩
 obtain ⟨ad,h2⟩:=this
 simp [execOp,ho,h2]
theorem z00q {S ft:TypeId} {x:Operand} {i fo sz:Nat} {xs:List BV} {y:BV} (ho:o.op=.field S x i) (hF:zn9 P S i fo ft) (hT:Ty P ft false sz) (hx:val G s.env x=some (.agg xs)) (hy:xs[fo]?=some y) :
  LtT P G o s [.c y]:=by
 intro E η J a w h
 obtain ⟨vs,h1,h2⟩:=h.val hx
 obtain ⟨u,h3,h4⟩:=h2.get hy
 refine ⟨u,?_,h4⟩
 have:=hF.und
 cases hu:P.underlying S with
 | none=>rw [hu] at this;cases this
 | some d =>
  rw [hu] at this
  simp only [Option.bind_some] at this
  cases d <;> simp only [zn8,reduceCtorEq] at this
  rename_i fs
  cases hf:fs[i]? with
  | none=>rw [hf] at this;cases this
  | some f =>
   rw [hf] at this
   simp only [Option.map_some,Option.some.injEq,Prod.mk.injEq] at this
   obtain ⟨q1,q2⟩:=this
   subst q1;subst q2
   simp [execOp,ho,h1,Instr.field,run_underlying hu,hf,asAgg,part,zed hT,h3]
theorem zxg {S ft:TypeId} {x:Operand} {i fo sz:Nat} {xs ys:List BV} (ho:o.op=.field S x i) (hF:zn9 P S i fo ft) (hT:Ty P ft true sz) (hx:val G s.env x=some (.agg xs)) (hy:(xs.drop fo).take sz=ys) :
  LtT P G o s [.agg ys]:=by
 intro E η J a w h
 obtain ⟨vs,h1,h2⟩:=h.val hx
 subst hy
 refine ⟨.agg ((vs.drop fo).take sz).toArray,?_,_,rfl,(h2.drop fo).take sz⟩
 have:=hF.und
 cases hu:P.underlying S with
 | none=>rw [hu] at this;cases this
 | some d =>
  rw [hu] at this
  simp only [Option.bind_some] at this
  cases d <;> simp only [zn8,reduceCtorEq] at this
  rename_i fs
  cases hf:fs[i]? with
  | none=>rw [hf] at this;cases this
  | some f =>
   rw [hf] at this
   simp only [Option.map_some,Option.some.injEq,Prod.mk.injEq] at this
   obtain ⟨q1,q2⟩:=this
   subst q1;subst q2
   have he:(vs.toArray.extract f.offset (f.offset+sz))=((vs.drop f.offset).take sz).toArray:=by
    apply Array.ext'
    simp [List.extract_eq_take_drop]
   simp [execOp,ho,h1,Instr.field,run_underlying hu,hf,asAgg,part,zed hT,z5c hT,he]
theorem zqj {T:TypeId} {x ix:Operand} {k:IntKind} {n:Int} {m:ByteArray} {c:UInt8} (ho:o.op=.index T x ix) (hu:P.underlying T=some .string)
  (hx:val G s.env x=some (.c (.pv (.str m)))) (hi:val G s.env ix=some (.c (.pv (.int k n)))) (h0:0≤n) (hc:m[n.toNat]?=some c):LtT P G o s [.c (.pv (.int .u8 c.toNat))]:=by
 intro E η J a w h
 have h1:=zhf (h.val hx)
 have h2:=z5i (h.val hi)
 exact ⟨.int .u8 c.toNat,by simp [execOp,ho,h1,h2,Instr.index,run_underlying hu,asIntOf,h0,hc],.int _ _⟩
def Bd (G:Nat→Option (List PV)) (env:List (Nat × List XV)) (o:Option Operand) (d r:Nat):Prop :=
 match o with
 | none=>r=d
 | some x=>∃ k n,val G env x=some (.c (.pv (.int k n)))∧0≤n∧r=n.toNat
theorem Bd.none {env:List (Nat × List XV)} {d:Nat}:Bd G env .none d d:=rfl
theorem Bd.some {env:List (Nat × List XV)} {d:Nat} {x:Operand} {k:IntKind} {n:Int} (h:val G env x=some (.c (.pv (.int k n)))) (h0:0≤n):Bd G env (.some x) d n.toNat:=⟨k,n,h,h0,rfl⟩
theorem zaa {E:En} {η:Hd} {J:Nat→Prop} {a:Act} {w:World} (h:Rel G E η J s a w) {lo hi:Option Operand} {l r len cap:Nat} {isS:Bool} (hlo:Bd G s.env lo 0 l) (hhi:Bd G s.env hi len r) (hlr:l≤r) (hr:r≤cap) :
  (Instr.sliceBounds isS len cap (lo.map a.eval) (hi.map a.eval) none).run P w=.ok (l,r,cap) w:=by
 have e1:∀ (x:Operand) (code:BoundsCode),hi=some x→(Instr.sliceBound (a.eval x) cap code).run P w=.ok r w:=by
  intro x code e
  subst e
  obtain ⟨k,n,h1,h2,h3⟩:=hhi
  have h4:=z5i (h.val h1)
  subst h3
  have:0≤n∧n≤(cap:Int):=⟨h2,by omega⟩
  simp [h4,Instr.sliceBound,asIntOf,this]
 have e2:∀ (x:Operand) (code:BoundsCode),lo=some x→(Instr.sliceBound (a.eval x) r code).run P w=.ok l w:=by
  intro x code e
  subst e
  obtain ⟨k,n,h1,h2,h3⟩:=hlo
  have h4:=z5i (h.val h1)
  subst h3
  have:0≤n∧n≤(r:Int):=⟨h2,by omega⟩
  simp [h4,Instr.sliceBound,asIntOf,this]
 cases hi with
 | none =>
  simp only [Bd] at hhi;subst hhi
  cases lo with
  | none=>simp only [Bd] at hlo;subst hlo;simp [Instr.sliceBounds]
  | some y=>simp [Instr.sliceBounds,e2 y _ rfl]
 | some x =>
  cases lo with
  | none=>simp only [Bd] at hlo;subst hlo;simp [Instr.sliceBounds,e1 x _ rfl]
  | some y=>simp [Instr.sliceBounds,e1 x _ rfl,e2 y _ rfl]
theorem zqk {T:TypeId} {x:Operand} {lo hi:Option Operand} {m:ByteArray} {l r:Nat} (ho:o.op=.slice T x lo hi none) (hu:P.underlying T=some .string)
  (hx:val G s.env x=some (.c (.pv (.str m)))) (hlo:Bd G s.env lo 0 l) (hhi:Bd G s.env hi m.size r) (hlr:l≤r) (hr:r≤m.size):LtT P G o s [.c (.pv (.str (m.extract l r)))]:=by
 intro E η J a w h
 have h1:=zhf (h.val hx)
 have h2:=zaa (P:=P) (isS:=false) h hlo hhi hlr hr
 exact ⟨.string (m.extract l r),by simp [execOp,ho,h1,Instr.sliceAt,Instr.slice,run_underlying hu,h2],.str _⟩
theorem zs9 {T e:TypeId} {x:Operand} {lo hi:Option Operand} {xs:List (List PV)} {l r sz:Nat} {agg:Bool} (ho:o.op=.slice T x lo hi none) (hu:P.underlying T=some (.slice e)) (hT:Ty P e agg sz)
  (hx:val G s.env x=some (.c (.pv (.sl xs)))) (hlo:Bd G s.env lo 0 l) (hhi:Bd G s.env hi xs.length r) (hlr:l≤r) (hr:r≤xs.length) (hl:l=0∨∀ y∈xs,y.length=sz) :
  LtT P G o s [.c (.pv (.sl ((xs.take r).drop l)))]:=by
 intro E η J a w h
 have h1:Rd w J (.sl xs) (a.eval x):=h.val hx
 generalize hv:a.eval x=v at h1
 cases h1 with
 | nil A cap =>
  have hr0:r=0:=by simpa using hr
  have hl0:l=0:=by omega
  subst hr0;subst hl0
  have h2:=zaa (P:=P) (isS:=true) h hlo hhi hlr (Nat.zero_le cap)
  simp only [List.length_nil] at h2
  refine ⟨_,by simp only [execOp,ho,hv,Instr.sliceAt];simp [Instr.slice,run_underlying hu,h2,z5c hT];rfl,?_⟩
  exact .nil _ _
 | sl xs sz' blk off cap us hne hJ hc q1 q2 q3 =>
  have h2:=zaa (P:=P) (isS:=true) h hlo hhi hlr (Nat.le_trans hr hc)
  refine ⟨_,by simp only [execOp,ho,hv,Instr.sliceAt];simp [Instr.slice,run_underlying hu,h2,z5c hT,Addr.add_lit];rfl,?_⟩
  have hlen:((xs.take r).drop l).length=r - l:=by simp;omega
  by_cases h0:(xs.take r).drop l=[]
  ·rw [h0] at hlen
   have:r - l=0:=by simpa using hlen.symm
   rw [h0,this]
   exact .nil _ _
  ·have hlt:l<r:=by
    rcases Nat.lt_or_ge l r with h|h
    ·exact h
    ·exact absurd (List.eq_nil_of_length_eq_zero (by omega)) h0
   have hsz:l=0∨sz'=sz:=by
    rcases hl with hl|hl
    ·exact .inl hl
    ·obtain ⟨y,ys,hxs⟩:=List.exists_cons_of_ne_nil hne
     exact .inr (by rw [← q1 0 y (by rw [hxs];rfl)];exact hl y (by rw [hxs];exact List.mem_cons_self))
   have hm:¬ cap=l:=by omega
   rw [if_neg hm,← hlen]
   have hoff:l*sz=l*sz':=by rcases hsz with h|h <;> subst h <;> simp
   rw [hoff]
   have idx:∀ (i:Nat) (y:List PV),((xs.take r).drop l)[i]?=some y→xs[l+i]?=some y:=by
    intro i y hy
    rw [List.getElem?_drop,List.getElem?_take] at hy
    split at hy
    ·exact hy
    ·cases hy
   refine Rd.sl _ sz' blk (off+l*sz') (cap - l) (fun i j=>us (l+i) j) h0 hJ (by omega) (fun i y hy=>q1 _ y (idx i y hy)) (fun i y j p hy hp=>?_) (fun i y j p hy hp=>q3 _ y j p (idx i y hy) hp)
   have:=q2 _ y j p (idx i y hy) hp
   rw [Nat.add_mul] at this
   rw [show off+l*sz' + (i*sz' + j)=off+(l*sz' + i*sz' + j) by omega]
   exact this
theorem zli {T:TypeId} {d:TypeDesc} {v:Value} {n:Nat} {ty:TypeId} (hu:P.underlying T=some d) (w:World)
  (hv:(∃ m,d=.string∧v=.string m∧m.size=n)∨(∃ e A c,d=.slice e∧v=.slice A n c)):(Builtin.len_ #[T] ty #[v]).run P w=.ok (.int .i64 n) w:=by
 rcases hv with ⟨m,rfl,rfl,rfl⟩|⟨e,A,c,rfl,rfl⟩ <;> simp [Builtin.len_,run_underlying hu,goInt]
theorem zvw {T:TypeId} {x:Operand} {m:ByteArray} (ho:o.op=.call { callee:=.builtin .len,args:=#[x],argTypes:=#[T] }) (hu:P.underlying T=some .string)
  (hx:val G s.env x=some (.c (.pv (.str m)))):LtT P G o s [.c (.pv (.int .i64 m.size))]:=by
 intro E η J a w h
 have h1:=zhf (h.val hx)
 have:=zli (P:=P) (T:=T) (ty:=o.type) (n:=m.size) hu w (.inl ⟨m,rfl,rfl,rfl⟩)
 exact ⟨_,by simp [execOp,ho,resolve,invoke,builtin,h1,this],.int _ _⟩
theorem zxh {T e:TypeId} {x:Operand} {xs:List (List PV)} (ho:o.op=.call { callee:=.builtin .len,args:=#[x],argTypes:=#[T] }) (hu:P.underlying T=some (.slice e))
  (hx:val G s.env x=some (.c (.pv (.sl xs)))):LtT P G o s [.c (.pv (.int .i64 xs.length))]:=by
 intro E η J a w h
 have h1:Rd w J (.sl xs) (a.eval x):=h.val hx
 have h2:∃ A c,a.eval x=.slice A xs.length c:=by
  generalize a.eval x=v at h1
  cases h1 with
  | nil A cap=>exact ⟨A,cap,rfl⟩
  | sl xs sz' blk off cap us hne hJ hc q1 q2 q3=>exact ⟨_,_,rfl⟩
 obtain ⟨A,c,h2⟩:=h2
 have:=zli (P:=P) (T:=T) (ty:=o.type) (n:=xs.length) hu w (.inr ⟨e,A,c,rfl,rfl⟩)
 exact ⟨_,by simp [execOp,ho,resolve,invoke,builtin,h2,this],.int _ _⟩
theorem zvx {T e T0:TypeId} {x:Operand} {b sz:Nat} {m ch:Bool} {xs:List (List PV)} (ho:o.op=.call { callee:=.builtin .len,args:=#[x],argTypes:=#[T] }) (hu:P.underlying T=some (.slice e))
  (hx:val G s.env x=some (.c (.row b))) (hb:s.st[b]?=some (some (.row m ch T0 sz xs))):LtT P G o s [.c (.pv (.int .i64 xs.length))]:=by
 intro E η J a w h
 obtain ⟨_,h1,_⟩:=h.val hx
 have h2:∃ A c,a.eval x=.slice A xs.length c:=by
  rcases h.row hb with ⟨q0,A,q5⟩|⟨us,g,c,q5,_⟩
  ·exact ⟨A,0,by rw [h1,q5,q0];rfl⟩
  ·exact ⟨_,c,by rw [h1,q5]⟩
 obtain ⟨A,c,h2⟩:=h2
 have:=zli (P:=P) (T:=T) (ty:=o.type) (n:=xs.length) hu w (.inr ⟨e,A,c,rfl,rfl⟩)
 exact ⟨_,by simp [execOp,ho,resolve,invoke,builtin,h2,this],.int _ _⟩
theorem zvy {T e:TypeId} {x:Operand} (ho:o.op=.call { callee:=.builtin .len,args:=#[x],argTypes:=#[T] }) (hu:P.underlying T=some (.slice e))
  (hx:val G s.env x=some (.c .emp)):LtT P G o s [.c (.pv (.int .i64 0))]:=by
 intro E η J a w h
 obtain ⟨A,h2⟩:=h.val hx
 have:=zli (P:=P) (T:=T) (ty:=o.type) (n:=0) hu w (.inr ⟨e,A,0,rfl,rfl⟩)
 exact ⟨_,by simp [execOp,ho,resolve,invoke,builtin,h2,this],.int _ _⟩
theorem zvz {S D:TypeId} {x:Operand} {ds:TypeDesc} {k k':IntKind} {n:Int} (ho:o.op=.convert S D x) (hs:P.underlying S=some ds) (hd:P.underlying D=some (.int k')) (hx:val G s.env x=some (.c (.pv (.int k n)))) :
  LtT P G o s [.c (.pv (.int k' (k'.wrap n)))]:=by
 intro E η J a w h
 have h1:=z5i (h.val hx)
 refine ⟨.int k' (k'.wrap n),?_,.int _ _⟩
 simp [execOp,ho,h1,convert,run_underlying hs,run_underlying hd,Conv.intToInt]
theorem zql {op:BinOp} {T U:TypeId} {x y:Operand} {m n:Bool} {r:Bool} (ho:o.op=.binOp op T x y U) (hu:P.underlying T=some .bool) (hx:val G s.env x=some (.c (.pv (.bool m)))) (hy:val G s.env y=some (.c (.pv (.bool n))))
  (hr:op=.eql∧r=(m==n)∨op=.neq∧r=!(m==n)):LtT P G o s [.c (.pv (.bool r))]:=by
 intro E η J a w h
 have h1:=zgo (h.val hx)
 have h2:=zgo (h.val hy)
 have hq:=run_equalIn_bool (P:=P) w 9999 T m n hu
 rcases hr with ⟨rfl,rfl⟩|⟨rfl,rfl⟩
 ·exact ⟨.bool _,by simp [execOp,ho,h1,h2,eqGuard,binOp,Op.equal,show Op.maxDepth=9999+1 from rfl,hq],.bool _⟩
 ·exact ⟨.bool _,by simp [execOp,ho,h1,h2,eqGuard,binOp,Op.equal,show Op.maxDepth=9999+1 from rfl,hq],.bool _⟩
def pvEq:TypeDesc→PV→PV→Option Bool
 | .int _,.int k a,.int k' b=>if k=k' then some (a==b) else none
 | .bool,.bool a,.bool b=>some (a==b)
 | .string,.str a,.str b=>some (a.toList==b.toList)
 | _,_,_=>none
def znb (P:Program) (cs ds:List BV):List Field→Option Bool
 | []=>some true
 | f::fs=>match P.underlying f.type,cs[f.offset]?,ds[f.offset]? with
  | some d,some (.pv p),some (.pv q)=>match (if f.name = "_" then none else pvEq d p q),znb P cs ds fs with
   | some a,some b=>some (a&&b)
   | _,_=>none
  | _,_,_=>none
theorem zos {η:Hd} {J:Nat→Prop} {w:World} {cs ds:List BV} {us vs:List Value} (h1:L2 (BVr η J w) cs us) (h2:L2 (BVr η J w) ds vs) (n:Nat):∀ (fs:List Field) (r:Bool),znb P cs ds fs=some r →
  (Op.eqFields (n+1) us.toArray vs.toArray fs).run P w=.ok r w
 | [],r,h=>by simp only [znb,Option.some.injEq] at h;subst h;simp [Op.eqFields]
 | f::fs,r,h=>by
  simp only [znb] at h
  split at h
  ·rename_i d p q hd hp hq
   split at h
   ·rename_i a b ha hb
    injection h with h
    split at ha
    ·cases ha
    ·rename_i hn
     have ih:=zos h1 h2 n fs b hb
     obtain ⟨u,hu,hpu⟩:=h1.get hp
     obtain ⟨v,hv,hqv⟩:=h2.get hq
     have hagg:(isAgg f.type).run P w=.ok false w:=by
      unfold isAgg
      rw [Sem.run_bind,run_underlying hd w]
      cases d <;> simp_all [pvEq]
     have e1:(part f.type us.toArray f.offset).run P w=.ok u w:=by simp [part,hagg,hu]
     have e2:(part f.type vs.toArray f.offset).run P w=.ok v w:=by simp [part,hagg,hv]
     have e3:(Op.equalIn (n+1) f.type u v).run P w=.ok a w:=by
      have hpu':Rd w J p u:=hpu
      have hqv':Rd w J q v:=hqv
      cases d <;> cases p <;> cases q <;> simp only [pvEq,reduceCtorEq,Option.some.injEq] at ha
      ·subst ha;rw [zgo hpu',zgo hqv'];exact run_equalIn_bool w n f.type _ _ hd
      ·split at ha
       ·rename_i hk;subst hk;injection ha with ha;subst ha;rw [z5i hpu',z5i hqv'];exact run_equalIn_int w n f.type _ _ _ _ hd
       ·cases ha
      ·subst ha;rw [zhf hpu',zhf hqv'];exact run_equalIn_string w n f.type _ _ hd
     rw [Op.eqFields]
     simp only [ne_eq,hn,not_false_eq_true,if_true,Sem.run_bind,e1,e2,e3,Result.andThen_ok]
     cases a
     ·simp at h;subst h;simp
     ·simp at h;subst h;simpa using ih
   ·cases h
  ·cases h
theorem znc {op:BinOp} {T U:TypeId} {x y:Operand} {cs ds:List BV} {fs:Array Field} {r r':Bool} (ho:o.op=.binOp op T x y U) (hu:P.underlying T=some (.struct fs)) (hp:P.stoodInHeld T=false) (hm:P.eqGuardType P.depth T=false)
  (hx:val G s.env x=some (.agg cs)) (hy:val G s.env y=some (.agg ds)) (hf:znb P cs ds fs.toList=some r) (hr:op=.eql∧r'=r∨op=.neq∧r'=!r):LtT P G o s [.c (.pv (.bool r'))]:=by
 intro E η J a w h
 obtain ⟨us,h1,h2⟩:=h.val hx
 obtain ⟨vs,h3,h4⟩:=h.val hy
 have hfo:P.fieldsOf T=fs:=by simp [Program.fieldsOf,hu]
 have hq:(Op.equalIn (9999+1) T (.agg us.toArray) (.agg vs.toArray)).run P w=.ok r w:=by
  rw [run_equalIn_struct (P:=P) w 9999 T _ _ (by rw [hfo];exact hu) hp,hfo]
  exact zos h2 h4 9998 fs.toList r hf
 have hg:∀ op',(eqGuard op' T x y (.agg us.toArray) (.agg vs.toArray)).run P w=.ok () w:=fun op'=>run_eqGuard_agg w op' T x y _ _ hm
 rcases hr with ⟨rfl,rfl⟩|⟨rfl,rfl⟩
 ·exact ⟨.bool _,by simp only [execOp,ho,h1,h3];simp [hg,binOp,Op.equal,show Op.maxDepth=9999+1 from rfl,hq],.bool _⟩
 ·exact ⟨.bool _,by simp only [execOp,ho,h1,h3];simp [hg,binOp,Op.equal,show Op.maxDepth=9999+1 from rfl,hq],.bool _⟩
theorem z041 {T U:TypeId} {x y:Operand} {k:IntKind} {m n:Int} (ho:o.op=.call { callee:=.builtin .min,args:=#[x,y],argTypes:=#[T,U] }) (hx:val G s.env x=some (.c (.pv (.int k m)))) (hy:val G s.env y=some (.c (.pv (.int k n)))) :
  LtT P G o s [.c (.pv (.int k (min m n)))]:=by
 intro E η J a w h
 have h1:=z5i (h.val hx)
 have h2:=z5i (h.val hy)
 have e:min m n=if n<m then n else m:=by split <;> omega
 rw [e]
 exact ⟨.int k (if n<m then n else m),by simp [execOp,ho,resolve,invoke,builtin,h1,h2,Builtin.min_,Builtin.min2],.int _ _⟩
theorem z042 {T U:TypeId} {x y:Operand} {k:IntKind} {m n:Int} (ho:o.op=.call { callee:=.builtin .max,args:=#[x,y],argTypes:=#[T,U] }) (hx:val G s.env x=some (.c (.pv (.int k m)))) (hy:val G s.env y=some (.c (.pv (.int k n)))) :
  LtT P G o s [.c (.pv (.int k (max m n)))]:=by
 intro E η J a w h
 have h1:=z5i (h.val hx)
 have h2:=z5i (h.val hy)
 have e:max m n=if n > m then n else m:=by split <;> omega
 rw [e]
 exact ⟨.int k (if n > m then n else m),by simp [execOp,ho,resolve,invoke,builtin,h1,h2,Builtin.max_,Builtin.max2],.int _ _⟩
end
end Go.Proofs.YtimbigpplbbjaaaGreatDoor.Abs

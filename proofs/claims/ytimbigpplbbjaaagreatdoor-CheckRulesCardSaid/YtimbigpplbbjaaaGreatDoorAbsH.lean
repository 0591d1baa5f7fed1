/- Abstract states of the machine: calls that change nothing, literals, and the rules as a printed walk uses them. -/
import Derived.Test.YtimbigpplbbjaaaGreatDoorAbsG
namespace Go.Proofs.YtimbigpplbbjaaaGreatDoor.Abs
open Go Go.RowKit
set_option linter.unusedVariables false
set_option linter.unusedSimpArgs false
section
variable {P:Program} {G:Nat→Option (List PV)} {ops:Array Oper} {o:Oper} {l:List Oper} {n m t:Nat} {env:List (Nat × List XV)} {st st':z0q} {K:Sx→Prop} {Q:Exit→Sx→Prop}
theorem z04b {x:List XV} (hd:o.dst=some t) (ht:decide (t<n)=true) (h:FlT P G o ⟨n,m,env,st⟩ x) (hk:K ⟨n,m,(t,x)::env,st⟩):OpT P G o ⟨n,m,env,st⟩ K :=
 fun E η J a w hr K' Q' hK=>h E η J a w hr K' Q' fun v w' J' g hv=>by
  rw [hd]
  exact hK _ _ η J' _ hk ((hr.grow g).put (by simpa using ht) hv)
def zng (P:Program) (G:Nat→Option (List PV)) (f:FuncId) (args res:List XV):Prop:=zpd P G f args [] (fun r st'=>r=res∧r.all XV.pure=true∧st'=[])
def nilE:BV→BV
 | .emp=>.pv (.sl [])
 | x=>x
theorem zg6 {η:Hd} {J:Nat→Prop} {w:World} {x:BV} {v:Value} (h:BVr η J w x v):BVr η J w (nilE x) v:=by
 cases x <;> first|exact h|(obtain ⟨A,rfl⟩:=h;exact .nil A 0)
def view (st:z0q):BV→BV
 | .row b=>match st[b]? with
  | some (some (.row _ _ _ _ xs))=>.pv (.sl xs)
  | _=>.row b
 | .box b 0=>match st[b]? with
  | some (some (.box _ _ cs))=>match zje cs with
   | some ps=>.ep ps
   | none=>.box b 0
  | _=>.box b 0
 | .emp=>.pv (.sl [])
 | x=>x
def JOwn (η:Hd) (J:Nat→Prop) (st:z0q) (k:Nat):Prop:=J k∨∃ (b:Nat) (o:Obj'),st[b]?=some (some o)∧Own η b k
theorem zw2 {η:Hd} {J:Nat→Prop} {w:World} {st:z0q} (h:Ok G η J w st) {x:BV} {v:Value} (hx:BVr η J w x v):BVr η (JOwn η J st) w (view st x) v:=by
 have up:∀ {x:BV} {v:Value},BVr η J w x v→BVr η (JOwn η J st) w x v:=fun hx=>BVr.mono (fun _ hj=>.inl hj) (fun _ _=>rfl) (fun _ hb _=>⟨hb,rfl⟩) hx
 cases x with
 | row b =>
  simp only [view]
  split
  ·rename_i m ch E sz xs hb
   obtain ⟨hd,hv,_⟩:=hx
   rcases (h.obj b _ hb).2 with ⟨rfl,A,h1⟩|⟨us,k,cap,h0,hc,h1,h2,h3⟩
   ·show Rd w _ (.sl []) v
    rw [hv,h1];exact .nil A 0
   ·show Rd w _ (.sl xs) v
    rw [hv,h0]
    by_cases hxs:xs=[]
    ·subst hxs;exact .nil _ _
    rcases h1.2 with ⟨h4,_⟩|⟨g,c,cur,h4,_,h5,h6,_,h7,h8⟩
    ·rw [h0] at h4;cases h4
    ·rw [h0] at h4;injection h4 with h4 h9 h10;injection h4 with h4;injection h4 with h4;subst h4;subst h10
     have hat:∀ (i:Nat) (x:List PV) (j:Nat) (p:PV),xs[i]?=some x→x[j]?=some p→∃ u,us[i*sz+j]?=some u∧Rd w J p u:=fun i x j p hx hp=>h2.get (z70 h3 hx hp)
     refine .sl xs sz k 0 cap (fun i j=>(us[i*sz+j]?).getD undef) hxs (.inr ⟨b,_,hb,.inr (.inl ⟨_,_,h0,hc⟩)⟩) h6 (fun i x hx=>h3 x (List.mem_of_getElem? hx)) (fun i x j p hx hp=>?_) (fun i x j p hx hp=>?_)
     ·obtain ⟨u,hu,_⟩:=hat i x j p hx hp
      rw [hu]
      have:cur.toList[i*sz+j]?=some u:=by
       rw [← h8] at hu
       rw [List.getElem?_take] at hu
       split at hu
       ·exact hu
       ·cases hu
      simp only [World.cell?,h5]
      simpa using this
     ·obtain ⟨u,hu,hr⟩:=hat i x j p hx hp
      rw [hu]
      exact Rd.mono (fun _ hj=>.inl hj) (fun _ _=>rfl) hr
  ·exact up hx
 | box b off =>
  cases off with
  | succ off=>exact up hx
  | zero =>
   simp only [view]
   split
   ·rename_i m T cs hb
    split
    ·rename_i ps hps
     obtain ⟨hd,k,h1,h2⟩:=hx
     obtain ⟨_,k',vs,h3,h4,h5⟩:=h.obj b _ hb
     rw [h1] at h3;injection h3 with h3;injection h3 with h3;injection h3 with h3;subst h3
     refine ⟨k,0,vs.toList,.inr ⟨b,_,hb,.inl h1⟩,h2,(zgp hps h5).mono (fun _ _ h=>Rd.mono (fun _ hj=>.inl hj) (fun _ _=>rfl) h),fun j u hu=>?_⟩
     simp only [World.cell?,h4,Nat.zero_add]
     simpa using hu
    ·exact up hx
   ·exact up hx
 | any=>exact up hx
 | pv p=>exact up hx
 | emp=>exact up (zg6 hx)
 | ep xs=>exact up hx
 | rp b sz i off=>exact up hx
 | bx b n=>exact up hx
 | pr b sz i n=>exact up hx
def BV.scal:BV→Bool
 | .pv (.bool _)|.pv (.int _ _)|.pv (.str _)=>true
 | _=>false
def XV.scal:XV→Bool
 | .c x=>x.scal
 | .agg xs=>xs.all BV.scal
 | _=>false
theorem zuc {η η':Hd} {J:Nat→Prop} {w:World} {x:BV} {v:Value} (hp:x.pure=true) (h:BVr η J w x v):BVr η' J w x v:=by
 cases x <;> first|exact h|cases hp
theorem z06x {η η':Hd} {J:Nat→Prop} {w:World} {x:XV} {v:Value} (hp:x.pure=true) (h:XVr η J w x v):XVr η' J w x v:=by
 have l:∀ (xs:List BV) (vs:List Value),xs.all BV.pure=true→L2 (BVr η J w) xs vs→L2 (BVr η' J w) xs vs:=fun xs vs ha hl=>⟨hl.len,fun i x v hx hv=>zuc (List.all_eq_true.1 ha x (List.mem_of_getElem? hx)) (hl.at_ i x v hx hv)⟩
 cases x with
 | u=>trivial
 | c x=>exact zuc hp h
 | agg xs=>obtain ⟨vs,rfl,hl⟩:=h;exact ⟨vs,rfl,l _ _ hp hl⟩
 | fn g a b=>simp only [XV.pure,Bool.and_eq_true] at hp;obtain ⟨fs,cs,rfl,h1,h2⟩:=h;exact ⟨fs,cs,rfl,l _ _ hp.1 h1,l _ _ hp.2 h2⟩
theorem zud {η η':Hd} {J:Nat→Prop} {w:World} {xs:List XV} {vs:List Value} (hp:xs.all XV.pure=true) (h:L2 (XVr η J w) xs vs):L2 (XVr η' J w) xs vs :=
 ⟨h.len,fun i x v hx hv=>z06x (List.all_eq_true.1 hp x (List.mem_of_getElem? hx)) (h.at_ i x v hx hv)⟩
theorem z09i {η η':Hd} {J:Nat→Prop} {w:World} {xs:List XV} {v:Value} (hp:xs.all XV.pure=true) (h:Rs η J w xs v):Rs η' J w xs v:=by
 match xs,hp,h with
 | [],_,h=>obtain ⟨vs,rfl,hl⟩:=h;exact ⟨vs,rfl,hl.unnil ▸ L2.nil⟩
 | [x],hp,h=>exact z06x (by simpa using hp) h
 | x::y::r,hp,h=>obtain ⟨vs,rfl,hl⟩:=h;exact ⟨vs,rfl,zud hp hl⟩
theorem z06y {η η':Hd} {J J':Nat→Prop} {w w':World} {x:BV} {v:Value} (hp:x.scal=true) (h:BVr η J w x v):BVr η' J' w' x v:=by
 cases x with
 | pv p =>
  have h':Rd w J p v:=h
  show Rd w' J' p v
  cases p <;> first|(cases h';constructor;done)|cases hp
 | _=>cases hp
theorem z06z {η η':Hd} {J J':Nat→Prop} {w w':World} {x:XV} {v:Value} (hp:x.scal=true) (h:XVr η J w x v):XVr η' J' w' x v:=by
 cases x with
 | u=>cases hp
 | c x=>exact z06y hp h
 | agg xs=>obtain ⟨vs,rfl,hl⟩:=h;exact ⟨vs,rfl,hl.len,fun i x v hx hv=>z06y (List.all_eq_true.1 hp x (List.mem_of_getElem? hx)) (hl.at_ i x v hx hv)⟩
 | fn g a b=>cases hp
theorem z09j {η η':Hd} {J J':Nat→Prop} {w w':World} {xs:List XV} {v:Value} (hp:xs.all XV.scal=true) (h:Rs η J w xs v):Rs η' J' w' xs v:=by
 match xs,hp,h with
 | [],_,h=>obtain ⟨vs,rfl,hl⟩:=h;exact ⟨vs,rfl,hl.unnil ▸ L2.nil⟩
 | [x],hp,h=>exact z06z (by simpa using hp) h
 | x::y::r,hp,h=>obtain ⟨vs,rfl,hl⟩:=h;exact ⟨vs,rfl,hl.len,fun i x v hx hv=>z06z (List.all_eq_true.1 hp x (List.mem_of_getElem? hx)) (hl.at_ i x v hx hv)⟩
theorem zou {η:Hd} {k:Nat}:¬ Wst η [] k:=fun ⟨b,o,h,_⟩=>by simp at h
theorem zov {η:Hd} {J:Nat→Prop} {w:World}:∀ {ys:List BV} {us:List Value} {cs:List BV} {vs:Array Value} (off k:Nat),L2 (BVr η J w) cs vs.toList→L2 (BVr η J w) ys us →
  L2 (BVr η J w) (putAt cs (off+k) ys) ((us.zipIdx k).foldl (fun cs p=>cs.setIfInBounds (off+p.2) p.1) vs).toList
 | [],us,cs,vs,off,k,h,hy=>by
  have:=hy.unnil
  subst this
  simpa [putAt] using h
 | y::ys,us,cs,vs,off,k,h,hy=>by
  obtain ⟨u,us',rfl,hu,hr⟩:=hy.uncons
  have h1:L2 (BVr η J w) (cs.set (off+k) y) (vs.setIfInBounds (off+k) u).toList:=by
   rw [Array.toList_setIfInBounds]
   exact h.set (off+k) hu
  have h2:=zov off (k+1) h1 hr
  rw [← Nat.add_assoc] at h2
  simpa [putAt] using h2
def zlm (place:Nat→Option (Nat × Nat)) (cells:List BV):List (Nat × XV)→Option (List BV)
 | []=>some cells
 | (i,x)::rest=>match place i,x.cells with
  | some (off,size),some ys=>if ys.length=size∧off+ys.length≤cells.length then zlm place (putAt cells off ys) rest else none
  | _,_=>none
theorem zsf {η:Hd} {J:Nat→Prop} {w:World} {place:Nat→Option (Nat × Nat)}:∀ {parts:List (Nat × XV)} {vals:List (Nat × Value)} {cs cs':List BV} {vs:Array Value},L2 (BVr η J w) cs vs.toList→L2 (fun p q=>p.1=q.1∧XVr η J w p.2 q.2) parts vals →
  zlm place cs parts=some cs'→∃ vs',Instr.fill place vs vals=some vs'∧L2 (BVr η J w) cs' vs'.toList
 | [],vals,cs,cs',vs,h,hl,hf=>by
  rw [hl.unnil]
  injection hf with hf;subst hf
  exact ⟨vs,rfl,h⟩
 | (i,x)::parts,vals,cs,cs',vs,h,hl,hf=>by
  obtain ⟨⟨j,v⟩,vals',rfl,⟨hi,hx⟩,hr⟩:=hl.uncons
  simp only at hi
  subst hi
  simp only [zlm] at hf
  split at hf
  ·rename_i off size ys hp hc
   split at hf
   ·rename_i hle
    have hcl:=hx.cells hc
    have h1:=zov off 0 h hcl
    obtain ⟨vs',h2,h3⟩:=zsf (place:=place) h1 hr hf
    refine ⟨vs',?_,h3⟩
    simp only [Instr.fill,hp]
    have e1:v.cells.size=size:=by rw [← hle.1,hcl.len];simp
    have e2:¬ (v.cells.size≠size∨off+v.cells.size > vs.size):=by
     have:=h.len
     have:=hcl.len
     simp only [Array.length_toList] at *
     omega
    simp only [Bool.or_eq_true,decide_eq_true_eq,gt_iff_lt,ne_eq,decide_not,Bool.not_eq_true',decide_eq_false_iff_not] at e2 ⊢
    rw [if_neg e2]
    rw [← h2]
    congr 1
    rw [← Array.foldl_toList,Array.toList_zipIdx]
   ·cases hf
  ·cases hf
def pls (P:Program):List Field→Option (List (Nat × Nat))
 | []=>some []
 | f::r=>match P.info? f.type,pls P r with
  | some i,some l=>some ((f.offset,i.size)::l)
  | _,_=>none
theorem zxs {w:World}:∀ {fs:List Field} {l:List (Nat × Nat)},pls P fs=some l→(fs.mapM (m:=Sem) fun f=>do pure (f.offset,← sizeOf f.type)).run P w=.ok l w
 | [],l,h=>by injection h with h;subst h;rfl
 | f::r,l,h=>by
  simp only [pls] at h
  split at h
  ·rename_i i l' hi hl
   injection h with h;subst h
   rw [List.mapM_cons,Sem.run_bind,Sem.run_bind]
   have:(sizeOf f.type).run P w=.ok i.size w:=by simp [sizeOf,typeInfo,hi]
   rw [this]
   simp only [Result.andThen_ok,Sem.run_pure,Sem.run_bind]
   rw [zxs hl]
   rfl
  ·cases h
def zg7 (G:Nat→Option (List PV)) (env:List (Nat × List XV)):List (Nat × Operand)→Option (List (Nat × XV))
 | []=>some []
 | (i,x)::r=>match val G env x,zg7 G env r with
  | some y,some l=>some ((i,y)::l)
  | _,_=>none
theorem Rel.parts {E:En} {η:Hd} {J:Nat→Prop} {s:Sx} {a:Act} {w:World} (h:Rel G E η J s a w):∀ {ps:List (Nat × Operand)} {ys:List (Nat × XV)},zg7 G s.env ps=some ys→L2 (fun p q=>p.1=q.1∧XVr η J w p.2 q.2) ys (ps.map fun p=>(p.1,a.eval p.2))
 | [],ys,hp=>by injection hp with hp;subst hp;exact L2.nil
 | (i,x)::r,ys,hp=>by
  simp only [zg7] at hp
  split at hp
  ·rename_i y l hy hl
   injection hp with hp;subst hp
   exact L2.cons ⟨rfl,h.val hy⟩ (h.parts hl)
  ·cases hp
structure StrF (P:Program) (T:TypeId) (fs:Array Field) (pl:List (Nat × Nat)) (z:Value) (zs:List BV):Prop where
 und:P.underlying T=some (.struct fs)
 pls:pls P fs.toList=some pl
 zero:(P.info? T).bind (·.zero)=some z
 cells:(cv z).bind XV.cells=some zs
theorem z010 {T:TypeId} {ps:Array (Nat × Operand)} {ys:List (Nat × XV)} {fs:Array Field} {pl:List (Nat × Nat)} {z:Value} {zs cs:List BV} {s:Sx} (ho:o.op=.build T ps) (hS:StrF P T fs pl z zs) (hp:zg7 G s.env ps.toList=some ys) (hf:zlm (fun i=>pl[i]?) zs ys=some cs) :
  LtT P G o s [.agg cs]:=by
 intro E η J a w hr
 obtain ⟨y,hy,hc⟩:∃ y,cv z=some y∧y.cells=some zs:=by
  have:=hS.cells
  cases hz:cv z with
  | none=>rw [hz] at this;cases this
  | some y=>rw [hz] at this;exact ⟨y,rfl,this⟩
 have hz:=(zih η J w z y hy).cells hc
 obtain ⟨vs',h1,h2⟩:=zsf hz (hr.parts hp) hf
 refine ⟨.agg vs',?_,vs'.toList,by simp,h2⟩
 have hzv:(zeroValue T).run P w=.ok z w:=by
  have:=hS.zero
  cases hi:P.info? T with
  | none=>rw [hi] at this;cases this
  | some i=>rw [hi] at this;simp only [Option.bind_some] at this;simp [zeroValue,typeInfo,hi,this]
 have hpl:=zxs (w:=w) hS.pls
 have hm:(fs.mapM (m:=Sem) fun f=>do pure (f.offset,← sizeOf f.type)).run P w=.ok pl.toArray w:=by
  rw [Array.mapM_eq_mapM_toList,Sem.run_map,hpl];rfl
 simp only [execOp,ho,Instr.build,Sem.run_bind,hzv,Result.andThen_ok,run_underlying hS.und,hm,Sem.run_pure]
 have e1:(Array.map (fun (x:Nat × Operand)=>(x.1,a.eval x.2)) ps).toList=ps.toList.map fun p=>(p.1,a.eval p.2):=by simp
 have e2:(fun (i:Nat)=>pl.toArray[i]?)=fun i=>pl[i]?:=by funext i;simp
 have h1':Instr.fill (fun i=>pl.toArray[i]?) z.cells (Array.map (fun (x:Nat × Operand)=>(x.1,a.eval x.2)) ps).toList=some vs':=by rw [e1,e2];exact h1
 simp only [h1',Sem.run_pure,Result.andThen_ok]
end
end Go.Proofs.YtimbigpplbbjaaaGreatDoor.Abs

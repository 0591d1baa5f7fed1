/- The evaluator: what writes; operations one behind the other. -/
import Derived.Test.YtimbigpplbbjaaaGreatDoorEvB
namespace Go.Proofs.YtimbigpplbbjaaaGreatDoor.Abs
open Go Go.RowKit
set_option linter.unusedVariables false
set_option linter.unusedSimpArgs false
section
variable {P:Program} {G:Nat→Option (List PV)} {o:Oper} {n m:Nat} {env:List (Nat × List XV)} {st:z0q} {tb:Tb} {tc:Tc}
theorem zwh {s:Sx} {K:Sx→Prop} {t:Nat} {T E:TypeId} {x y:Operand} {sz bytes:Nat} {yv:XV} {ys:List (List PV)} (hd:o.dst=some t) (ht:decide (t<s.n)=true)
  (ho:o.op=.call { callee:=.builtin .append,args:=#[x,y],argTypes:=#[T,T] }) (hu:P.underlying T=some (.slice E)) (hE:TyE P E sz bytes) (hb0:0<bytes)
  (hx:val G s.env x=some (.c .emp)) (hy:val G s.env y=some yv) (hs:Src s yv ys) (hsz:∀ e∈ys,e.length=sz) (hbytes:ys.length*bytes≤140737488355328)
  (hk:K ⟨s.n,s.m,(t,[.c (.row s.st.length)])::s.env,s.st++[some (.row true true E sz ys)]⟩):OpT P G o s K:=by
 refine zmj hd fun E0 η J a w hr=>?_
 obtain ⟨A0,hv⟩:=hr.val hx
 obtain ⟨A,c,us,hyv,hc,hl,hlen,hcell⟩:=hs.reads hr (hr.val hy) hsz
 have hrun0:∀ w2 v2,(Builtin.append_ #[T,T] o.type #[a.eval x,a.eval y]).run P w=.ok v2 w2→(execOp a.eval o).run P w=.ok (.value v2) w2:=fun w2 v2 h=>by
  simp [execOp,ho,resolve,invoke,builtin,h]
 by_cases h0:ys=[]
 ·subst h0
  have hr0:=zei (ty:=o.type) hu hE A0 A 0 0 c (Nat.le_refl _) w
  simp only [List.length_nil] at hyv
  rw [← hv,← hyv] at hr0
  have hno:∀ k,Own (η.push s.st.length (.slice A0 0 0)) s.st.length k→w.heap.size≤k:=fun k hk=>(zgn Hd.push_n Hd.push_x hk).elim
  have h1:=hr.new (o:=.row true true E sz []) (v:=.slice A0 0 0) rfl rfl rfl (Nat.le_refl _) (fun _ _=>rfl) hno ⟨Hd.push_x,.inl ⟨rfl,A0,Hd.push_n⟩⟩
  refine ⟨_,w,_,J,_,[.c (.row s.st.length)],hrun0 _ _ hr0,h1,by simpa using ht,⟨.inr rfl,?_,by rw [hv];rfl⟩,hk⟩
  rw [hv];exact Hd.push_n.symm
 ·obtain ⟨k0,off0,rfl,hcell2⟩:=hcell h0
  have hm:0<ys.length:=by
   rcases Nat.eq_zero_or_pos ys.length with h|h
   ·exact absurd (List.eq_nil_of_length_eq_zero h) h0
   ·exact h
  have h1:∀ u∈us,u.oneCell'=true:=fun u hu2=>by
   obtain ⟨i,hi⟩:=List.mem_iff_getElem?.1 hu2
   have hlt:i<ys.flatten.length:=by rw [hl.len];exact (List.getElem?_eq_some_iff.1 hi).1
   exact (hl.at_ i _ u (List.getElem?_eq_getElem hlt) hi).one
  obtain ⟨v',w',hrun,ap⟩:=zij (ty:=o.type) hu hE w (a.eval x) 0 [] (.inl ⟨rfl,rfl,A0,hv⟩) ⟨k0,off0,none⟩ ys.length c us hlen (fun j u hju=>by rw [Addr.add_lit];exact hcell2 j u hju) h1 hm hb0 (by rw [Nat.zero_add];exact hbytes)
  rw [← hyv] at hrun
  obtain ⟨k,cap,e1,e2,e3,e4⟩:=ap.res
  have hk0:w.heap.size≤k:=by
   rcases e4 with ⟨m,c',e5,e6⟩|e5
   ·rw [hv] at e5;injection e5 with _ _ e5;omega
   ·exact e5
  have keep:∀ j,j<w.heap.size→w'.heap[j]?=w.heap[j]?:=fun j hj=>ap.keep j hj (fun m cap he=>by
   rw [hv] at he;injection he with _ _ he;exact he.symm)
  have hno:∀ j,Own (η.push s.st.length v') s.st.length j→w.heap.size≤j:=fun j hj=>by
   rcases hj with hj|⟨m,cap',hj,hp⟩|hj
   ·rw [Hd.push_n,e1] at hj;cases hj
   ·rw [Hd.push_n,e1] at hj;injection hj with hj;injection hj with hj;injection hj with hj;omega
   ·rw [Hd.push_x] at hj;cases hj
  simp only [Nat.zero_add,List.nil_append] at e1 e3
  have hO:ObjR (η.push s.st.length v') J w' s.st.length (.row true true E sz ys):=by
   refine ⟨Hd.push_x,.inr ⟨us,k,cap,by rw [Hd.push_n];exact e1,e2,by rw [Hd.push_n];exact e3,?_,hsz⟩⟩
   exact hl.mono fun _ _ h=>Rd.mono (fun _ h=>h) (fun j hj=>keep j (hr.ok.jlt j hj)) h
  have h2:=hr.new (o:=.row true true E sz ys) (v:=v') ap.os ap.tape ap.output ap.size keep hno hO
  exact ⟨v',w',_,J,_,[.c (.row s.st.length)],hrun0 _ _ hrun,h2,by simpa using ht,⟨.inr rfl,Hd.push_n.symm,by rw [e1];rfl⟩,hk⟩
def refB:BV→List Nat
 | .row b|.box b _|.rp b _ _ _|.bx b _|.pr b _ _ _=>[b]
 | _=>[]
def refX:XV→List Nat
 | .c x=>refB x
 | .agg xs=>xs.flatMap refB
 | .fn _ a b=>a.flatMap refB++b.flatMap refB
 | .u=>[]
def refO (st:z0q) (b:Nat):List Nat:=match st[b]? with
 | some (some (.box _ _ cs))=>cs.flatMap refB
 | some (some (.tree _ _ (some q) _ _ _))=>refB q.2.2
 | _=>[]
def clo (st:z0q):Nat→List Nat→List Nat→List Nat
 | 0,_,acc=>acc
 | _+1,[],acc=>acc
 | k+1,b::todo,acc=>if acc.contains b then clo st k todo acc else clo st k (refO st b++todo) (acc++[b])
def z09o (st:z0q) (xs:List XV):List Nat:=clo st 500 (xs.flatMap refX) []
abbrev R2:=Option (List Prop × (BV→BV) × z0q × List XV × List Ans)
def PutC (cs:List BV) (off:Nat) (ys cs':List BV):Prop:=off+ys.length≤cs.length∧putAt cs off ys=cs'
def z07f (hh:Option (Nat × Nat × BV)) (i off:Nat):Prop:=match hh with
 | some (r,q,_)=>r=i∧q=off
 | none=>True
def zym (tb:Tb) (st:z0q) (T:Nat) (x y:Option XV) (as:List Ans):R2:=match x,y.bind XV.cells,as1 tb.tyL T with
 | some (.c (.box b off)),some ys,some (_,sz)=>match st[b]? with
  | some (some (.box true T0 cs))=>if ys.length=sz then match as with
   | .sc cs'::as=>some ([PutC cs off ys cs'],id,st.set b (some (.box true T0 cs')),[],as)
   | as=>if off+ys.length≤cs.length then some ([],id,st.set b (some (.box true T0 (putAt cs off ys))),[],as) else none
   else none
  | _=>none
 | some (.c (.rp b sz i off)),some ys,some (_,szT)=>match st[b]?,zje ys,as with
  | some (some (.row true ch E sz' xs)),some ps,.se e zs::as=>if sz'=sz∧ps.length=szT∧off+ps.length≤sz then some ([xs[i]?=some e,xs.set i (putP e off ps)=zs],id,st.set b (some (.row true ch E sz zs)),[],as) else none
  | some (some (.tree true ch hh E sz' xs)),some ps,.se e zs::as=>if sz'=sz∧ps.length=szT∧off+ps.length≤sz∧offH hh sz off ps.length then some ([xs[i]?=some e,xs.set i (putP e off ps)=zs],id,st.set b (some (.tree true ch hh E sz zs)),[],as) else none
  | some (some (.tree true ch hh E sz' xs)),_,.sh e::as=>match ys with
   | [z]=>if sz'=sz∧1=szT∧off<sz∧off<e.length then some ([xs[i]?=some e,z07f hh i off],id,st.set b (some (.tree true ch (some (i,off,z)) E sz xs)),[],as) else none
   | _=>none
  | _,_,_=>none
 | _,_,_=>none
def z02y (tc:Tc) (st:z0q) (T:Nat) (x y:Option XV) (as:List Ans):R2:=match as1 tc.sl T,x,y,as with
 | some q,some (.c (.row b)),some (.c (.bx l len)),.ap inf zs::as=>match st[b]?,st[l]? with
  | some (some (.tree true ch none E sz xs)),some (some (.box _ _ cs))=>match toT inf 0 cs,zr4 xs.length sz (zcf 0 cs) with
   | some ps,some hh=>if E=q.E∧sz=q.sz∧cs.length=len*sz∧0<len∧(zcf 0 cs).all (fun p=>!(p.2==b)) then some ([(xs.length+len)*q.bytes≤140737488355328,xs++ck sz len ps=zs],prg b,(z99 (prg b) st).set b (some (.tree true true hh E sz zs)),[.c (.row b)],as) else none
   | _,_=>none
  | _,_=>none
 | _,_,_,_=>none
def z07g (tc:Tc) (st:z0q) (T:Nat) (x y:Option XV) (as:List Ans):R2:=match as1 tc.sl T,zwg st y,as with
 | some q,some ys,.l zs::as=>match x with
  | some (.c (.row b))=>match st[b]? with
   | some (some (.row true ch E sz xs))=>if E=q.E∧sz=q.sz then some ([App q.bytes q.sz xs ys zs],prg b,(z99 (prg b) st).set b (some (.row true true E sz zs)),[.c (.row b)],as) else none
   | _=>none
  | some (.c .emp)=>some ([App q.bytes q.sz [] ys zs],id,st++[some (.row true true q.E q.sz zs)],[.c (.row st.length)],as)
  | _=>none
 | _,_,_=>none
def zyn (tc:Tc) (st:z0q) (T:Nat) (x y:Option XV) (as:List Ans):R2:=match as1 tc.sl T,x,y,as with
 | some q,some (.c (.pr b 1 i n)),some (.c (.pr c 1 j m)),.i v::.l zs::as=>match st[b]? with
  | some (some (.row true ch E 1 xs))=>if c=b∧E=q.E∧q.sz=1 then some ([i+n≤xs.length,j+m≤xs.length,pcp xs i j (min m n)=zs,min (m:Int) (n:Int)=v],id,st.set b (some (.row true ch E 1 zs)),[.c (.pv (.int .i64 v))],as) else none
  | _=>none
 | _,_,_,_=>none
def z02z (tc:Tc) (st:z0q) (T:Nat) (x y:Option XV) (as:List Ans):R2:=match as1 tc.sl T,zwg st y,x,as with
 | some q,some ys,some (.c (.row b)),.i v::.l zs::as=>match st[b]? with
  | some (some (.row true ch E sz xs))=>if E=q.E∧sz=q.sz∧q.sz=1 then some ([∀ e∈ys,e.length=1,cpy xs ys=zs,min (ys.length:Int) (xs.length:Int)=v],id,st.set b (some (.row true ch E 1 zs)),[.c (.pv (.int .i64 v))],as) else none
  | _=>none
 | _,_,_,_=>none
def zyo (P:Program) (G:Nat→Option (List PV)) (st:z0q) (g:Option XV) (ys:Option (List XV)) (as:List Ans):R2:=match as,g,ys with
 | .s res stR::as,some (.fn (.func f) fi ca),some ys =>
  let A:=(fi.map XV.c++ys++ca.map XV.c).map (XV.map nilE)
  let ids:=z09o st A
  if (decide ids.Nodup&&ids.all (fun b=>decide (b<st.length))) then some ([Cs P G f (A.map (XV.map (loc ids))) (locS ids [] st) res stR],pur ids stR,zph ids [] st stR,res.map (XV.map (unl ids st.length)),as) else none
 | _,_,_=>none
def z04v (P:Program) (tb:Tb) (tc:Tc) (G:Nat→Option (List PV)) (env:List (Nat × List XV)) (st:z0q) (n:Nat) (dst:Option Nat) (op:Op) (as:List Ans):R2:=match op,dst with
 | .store T x y,none=>zym tb st T (val G env x) (val G env y) as
 | .call c,some t=>if t<n then match c.callee,c.args.toList,c.argTypes.toList with
  | .builtin .append,[x,y],[T,T']=>if T=T' then (match z07g tc st T (val G env x) (val G env y) as with|some r=>some r|none=>z02y tc st T (val G env x) (val G env y) as) else none
  | .builtin .copy,[x,y],[T,T']=>if T=T' then (match z02z tc st T (val G env x) (val G env y) as with|some r=>some r|none=>zyn tc st T (val G env x) (val G env y) as) else none
  | .value g,xs,_=>zyo P G st (val G env g) (vals G env xs) as
  | _,_,_=>none
  else none
 | _,_=>none
def ent (t:Option Nat) (x:List XV) (env:List (Nat × List XV)):List (Nat × List XV):=match t with
 | some t=>(t,x)::env
 | none=>env
theorem zoz {x:Operand} {env':List (Nat × List XV)} {xs:List (List PV)} (he:∀ u xs,lk env u=some xs→lk env' u=some xs) (h:zwg st (val G env x)=some xs):∃ y,val G env' x=some y∧Src ⟨n,m,env',st⟩ y xs:=by
 obtain ⟨y,hy,hs⟩:=zuk (n:=n) (m:=m) (env:=env') h
 exact ⟨y,z7l he hy,hs⟩
theorem zun (hT:TbOk P tb) (hC:TcOk P tc) {as as':List Ans} {x:List XV} {ps:List Prop} {f:BV→BV} {st':z0q} {env':List (Nat × List XV)} {K:Sx→Prop} (h:z04v P tb tc G env st n o.dst o.op as=some (ps,f,st',x,as')) (hp:conj ps)
  (he:∀ u xs,lk env u=some xs→lk env' u=some xs) (hk:K ⟨n,m,ent o.dst x (z5b f env'),st'⟩):OpT P G o ⟨n,m,env',st⟩ K:=by
 generalize ho:o.op=op at h
 generalize hd:o.dst=dst at h hk
 unfold z04v at h
 split at h
 ·rename_i T xo yo
  unfold zym at h
  simp only [ent] at hk
  split at h
  ·rename_i b off ys sz' hx hy ht
   rename_i agg sz
   simp only [Option.bind_eq_some_iff] at hy
   obtain ⟨v,hy,hc⟩:=hy
   split at h
   ·rename_i T0 cs hb
    split at h
    ·rename_i hl
     split at h
     ·cases h
      rw [z7x] at hk
      exact zmy (s:=⟨n,m,env',st⟩) hd ho (hT.ty ht) (z7l he hx) hb (z7l he hy) hc hl hp.1.1 hp.1.2 hk
     ·split at h
      ·rename_i hf
       cases h
       rw [z7x] at hk
       exact zmy (s:=⟨n,m,env',st⟩) hd ho (hT.ty ht) (z7l he hx) hb (z7l he hy) hc hl hf rfl hk
      ·cases h
    ·cases h
   ·cases h
  ·rename_i b sz i off ys agg szT hx hy ht
   simp only [Option.bind_eq_some_iff] at hy
   obtain ⟨v,hy,hc⟩:=hy
   split at h
   ·rename_i ch E sz' xs ps' e zs as hb hq
    split at h
    ·rename_i hl
     obtain ⟨e1,e2,e3⟩:=hl
     subst e1
     cases h
     rw [z7x] at hk
     obtain ⟨h1,h2,_⟩:=hp
     subst h2
     exact zxv (s:=⟨n,m,env',st⟩) hd ho (hT.ty ht) (z7l he hx) hb h1 (z7l he hy) hc hq e2 e3 hk
    ·cases h
   ·rename_i ch hh E sz' xs ps' e zs as hb hq
    split at h
    ·rename_i hl
     obtain ⟨e1,e2,e3,e4⟩:=hl
     subst e1
     cases h
     rw [z7x] at hk
     obtain ⟨h1,h2,_⟩:=hp
     subst h2
     exact zyp (s:=⟨n,m,env',st⟩) hd ho (hT.ty ht) (z7l he hx) hb h1 (z7l he hy) hc hq e2 e3 (fun j hj=>by rw [Nat.add_assoc];exact zsn e4 hj e3) hk
    ·cases h
   ·rename_i ch hh E sz' xs e as hb
    split at h
    ·rename_i z
     split at h
     ·rename_i hl
      obtain ⟨e1,e2,e3,e4⟩:=hl
      subst e1
      cases h
      rw [z7x] at hk
      obtain ⟨h1,h2,_⟩:=hp
      refine zyq (s:=⟨n,m,env',st⟩) hd ho (hT.ty ht) (z7l he hx) hb h1 e4 (z7l he hy) hc e2 e3 (fun r q u eh=>?_) hk
      subst eh
      exact h2
     ·cases h
    ·cases h
   ·cases h
  ·cases h
 ·rename_i c t
  simp only [ent] at hk
  split at h
  ·rename_i htn
   have htn:decide (t<n)=true:=by simpa using htn
   split at h
   ·rename_i xo yo T T' hc hx ht
    split at h
    ·rename_i eT
     subst eT
     rw [ze6 hc hx ht] at ho
     split at h
     rotate_left
     ·unfold z02y at h
      split at h
      ·rename_i q b l len inf zs as hq hxv hyv _
       have hS:=z81 hC.sl hq
       split at h
       ·rename_i ch E sz xs m0 T0 cs hb hl
        split at h
        ·rename_i ps2 hh hps hho
         split at h
         ·rename_i e
          obtain ⟨e1,e2,e3,e4,e5⟩:=e
          cases h
          subst e1;subst e2
          obtain ⟨h1,h2,_⟩:=hp
          subst h2
          exact zwi (s:=⟨n,m,env',st⟩) hd htn ho hS.und hS.te hS.pos (z7l he hxv) hb (z7l he hyv) hl e3 e4 hps hho (fun p hp=>by simpa using List.all_eq_true.1 e5 p hp) h1 hk
         ·cases h
        ·cases h
       ·cases h
      ·cases h
     rename_i r0 h0
     injection h with h
     subst h
     replace h:=h0
     unfold z07g at h
     split at h
     ·rename_i q ys zs as hq hs
      have hS:=z81 hC.sl hq
      obtain ⟨yv,hy,hsrc⟩:=zoz (n:=n) (m:=m) he hs
      split at h
      ·rename_i b hxv
       split at h
       ·rename_i ch E sz xs hb
        split at h
        ·rename_i e
         obtain ⟨e1,e2⟩:=e
         cases h
         subst e1;subst e2
         obtain ⟨⟨h1,h2,h3⟩,_⟩:=hp
         subst h3
         exact zxj (s:=⟨n,m,env',st⟩) hd htn ho hS.und hS.te hS.pos (z7l he hxv) hb hy hsrc h1 h2 hk
        ·cases h
       ·cases h
      ·rename_i hxv
       cases h
       rw [z7x] at hk
       obtain ⟨⟨h1,h2,h3⟩,_⟩:=hp
       simp only [List.nil_append] at h3
       subst h3
       exact zwh (s:=⟨n,m,env',st⟩) hd htn ho hS.und hS.te hS.pos (z7l he hxv) hy hsrc h1 (by simpa using h2) hk
      ·cases h
     ·cases h
    ·cases h
   ·rename_i xo yo T T' hc hx ht
    split at h
    ·rename_i eT
     subst eT
     rw [ze6 hc hx ht] at ho
     split at h
     rotate_left
     ·unfold zyn at h
      split at h
      ·rename_i q b i n' c j m' v zs as hq hxv hyv _
       have hS:=z81 hC.sl hq
       split at h
       ·rename_i ch E xs hb
        split at h
        ·rename_i e
         obtain ⟨e1,e2,e3⟩:=e
         cases h
         subst e1;subst e2
         obtain ⟨h1,h2,h3,h4,_⟩:=hp
         rw [z7x] at hk
         subst h3;subst h4
         obtain ⟨inf,z',i1,i2,i3,i4,i5⟩:=hS.te.get
         exact z01f (s:=⟨n,m,env',st⟩) hd htn ho hS.und (by rw [i1];simp [i2,e3]) (z7l he hxv) hb (z7l he hyv) h1 h2 hk
        ·cases h
       ·cases h
      ·cases h
     rename_i r0 h0
     injection h with h
     subst h
     replace h:=h0
     unfold z02z at h
     split at h
     ·rename_i q ys b v zs as hq hs hxv
      have hS:=z81 hC.sl hq
      obtain ⟨yv,hy,hsrc⟩:=zoz (n:=n) (m:=m) he hs
      split at h
      ·rename_i ch E sz xs hb
       split at h
       ·rename_i e
        obtain ⟨e1,e2,e3⟩:=e
        cases h
        subst e1;subst e2
        obtain ⟨h1,h2,h3,_⟩:=hp
        rw [z7x] at hk
        subst h2;subst h3
        rw [e3] at hb
        obtain ⟨inf,z',i1,i2,i3,i4,i5⟩:=hS.te.get
        exact z04n (s:=⟨n,m,env',st⟩) hd htn ho hS.und (by rw [i1];simp [i2,e3]) (z7l he hxv) hb hy hsrc h1 hk
       ·cases h
      ·cases h
     ·cases h
    ·cases h
   ·rename_i g xs ts hc
    rw [ze6 hc rfl rfl] at ho
    unfold zyo at h
    split at h
    ·rename_i res stR as f' fi ca ys hg hy
     simp only at h
     split at h
     ·rename_i hn
      cases h
      obtain ⟨⟨h1,h2⟩,_⟩:=hp
      refine zu6 (s:=⟨n,m,env',st⟩) hd htn (fun E η J a w hr=>?_) hn rfl rfl h2 (fun r s ⟨e1,e2⟩=>?_)
      ·obtain ⟨vs,hrun,hl⟩:=zim hr ho (z7l he hg) h1 (zqy he (by simpa using hy))
       exact ⟨vs,hrun,hl.xmap (fun _ _=>zg6)⟩
      ·subst e1;subst e2
       exact hk
     ·cases h
    ·cases h
   ·cases h
  ·cases h
 ·cases h
def evHv (P:Program) (tb:Tb) (tc:Tc) (G:Nat→Option (List PV)) (env:List (Nat × List XV)) (st:z0q) (n:Nat) (dst:Option Nat) (op:Op):List Ans→R2
 | .zc b y zs::as=>match st[b]? with
  | some (some (.tree true ch (some (i,q,.row k)) E sz xs))=>match st[k]? with
   | some (some on)=>match zwj on with
    | some (t,E',sz',ys)=>if k≠b∧q<sz then (match evHv P tb tc G (z5b (prg k) env) (((z99 (prg k) st).set k none).set b (some (.tree true ch none E sz zs))) n dst op as with
     | some (ps,f,st',x,as')=>some ([xs[i]?=some y,xs.set i (putP y q [.os t E' sz' ys])=zs]++ps,f ∘ prg k,st',x,as')
     | none=>none) else none
    | none=>none
   | _=>none
  | _=>none
 | as=>z04v P tb tc G env st n dst op as
theorem zsu (f g:BV→BV) (env:List (Nat × List XV)):z5b f (z5b g env)=z5b (f ∘ g) env:=by
 unfold z5b
 rw [List.map_map]
 apply List.map_congr_left
 rintro ⟨t,xs⟩ _
 simp only [Function.comp,Prod.mk.injEq,true_and,List.map_map]
 apply List.map_congr_left
 intro x _
 cases x <;> simp [XV.map]
theorem zpq (hT:TbOk P tb) (hC:TcOk P tc):∀ {as as':List Ans} {x:List XV} {ps:List Prop} {f:BV→BV} {st st':z0q} {env env':List (Nat × List XV)} {K:Sx→Prop} (_:evHv P tb tc G env st n o.dst o.op as=some (ps,f,st',x,as')) (_:conj ps)
  (_:∀ u xs,lk env u=some xs→lk env' u=some xs) (_:K ⟨n,m,ent o.dst x (z5b f env'),st'⟩),OpT P G o ⟨n,m,env',st⟩ K
 | [],as',x,ps,f,st,st',env,env',K,h,hp,he,hk=>by
  unfold evHv at h
  exact zun hT hC h hp he hk
 | a::as,as',x,ps,f,st,st',env,env',K,h,hp,he,hk=>by
  unfold evHv at h
  split at h
  ·rename_i b y zs as2 heq
   cases heq
   split at h
   ·rename_i ch i q k E sz xs hb
    split at h
    ·rename_i on hn
     split at h
     ·rename_i t E' sz' ys hkd
      split at h
      ·rename_i hne
       split at h
       ·rename_i ps2 f2 st2 x2 as3 hr
        cases h
        obtain ⟨h1,h2,h3⟩:=hp
        have hw:=zp0 (G:=G) (s:=⟨n,m,env',st⟩) hb hn hkd hne.1 h1 hne.2
        rw [h2] at hw
        refine OpT.weak hw (zpq hT hC hr h3 (fun u xs hu=>?_) ?_)
        ·rw [zn7] at hu ⊢
         cases hl:lk env u with
         | none=>rw [hl] at hu;cases hu
         | some z=>rw [hl] at hu;rw [he u z hl];exact hu
        ·rw [zsu];exact hk
       ·cases h
      ·cases h
     ·cases h
    ·cases h
   ·cases h
  ·exact zun hT hC h hp he hk
def leB (x y:BV):Prop:=∀ (η:Hd) (J:Nat→Prop) (w:World) (v:Value),BVr η J w x v→BVr η J w y v
theorem leB.refl (x:BV):leB x x:=fun _ _ _ _ h=>h
theorem zsv {s:Sx} {env':List (Nat × List XV)} {st':z0q} (he:∀ t xs,lk env' t=some xs→∃ ys,lk s.env t=some ys∧∀ η J w v,Rs η J w ys v→Rs η J w xs v) (hl:st'.length=s.st.length)
  (hs:∀ (b:Nat) (o':Obj'),st'[b]?=some (some o')→∃ o,s.st[b]?=some (some o)∧o'.mut=o.mut∧(o'.same=true→o.same=true)∧∀ η J w,ObjR η J w b o→ObjR η J w b o'):Weak G s ⟨s.n,s.m,env',st'⟩:=by
 intro E0 η J a w hr
 refine ⟨η,J,hr.size,hr.m,hr.defers,fun t xs ht=>?_,⟨fun b hb=>?_,hr.ok.jlt,fun b o' hb=>?_,fun b c o1 o2 k hb hc h1 h2=>?_,fun b o' k hb hk=>?_,hr.ok.glob⟩,⟨hr.ex.jj,hr.ex.os,hr.ex.tape,hr.ex.output,hr.ex.size,hr.ex.keep,hr.ex.jn,?_,fun b o' k hb hk=>?_,fun b o' hlt hb hsm=>?_⟩⟩
 ·obtain ⟨ys,h1,h2⟩:=he t xs ht
  exact h2 _ _ _ _ (hr.env t ys h1)
 ·show b<st'.length
  rw [hl];exact hr.ok.len b hb
 ·obtain ⟨o,h1,_,_,h2⟩:=hs b o' hb
  exact h2 _ _ _ (hr.ok.obj b o h1)
 ·obtain ⟨o,h3,_⟩:=hs b o1 hb
  obtain ⟨o',h4,_⟩:=hs c o2 hc
  exact hr.ok.dis b c o o' k h3 h4 h1 h2
 ·obtain ⟨o,h3,_⟩:=hs b o' hb
  exact hr.ok.jd b o k h3 hk
 ·show E0.st.length≤st'.length
  rw [hl];exact hr.ex.len
 ·obtain ⟨o,h3,h4,_⟩:=hs b o' hb
  rw [h4]
  exact hr.ex.own b o k h3 hk
 ·obtain ⟨o,h3,_,h4,_⟩:=hs b o' hb
  exact hr.ex.hdr b o hlt h3 (h4 hsm)
def nilO:Obj'→Obj'
 | .box m T cs=>.box m T (cs.map nilE)
 | o=>o
def anyO (i:Nat):Obj'→Obj'
 | .box m T cs=>.box m T (cs.set i .any)
 | o=>o
theorem z030 {R:BV→Value→Prop} (hR:∀ c v,R c v→R .any v):∀ {cs:List BV} {vs:List Value} (i:Nat),L2 R cs vs→L2 R (cs.set i .any) vs
 | [],vs,i,h=>by cases i <;> exact h
 | c::cs,vs,0,h=>by
  obtain ⟨v,vs',rfl,h1,h2⟩:=h.uncons
  exact L2.cons (hR c v h1) h2
 | c::cs,vs,i+1,h=>by
  obtain ⟨v,vs',rfl,h1,h2⟩:=h.uncons
  exact L2.cons h1 (z030 hR i h2)
theorem z04w {η:Hd} {J:Nat→Prop} {w:World} {b i:Nat} {o:Obj'} (h:ObjR η J w b o):ObjR η J w b (anyO i o):=by
 cases o with
 | box m T cs=>obtain ⟨hx,k,vs,h1,h2,h3⟩:=h;exact ⟨hx,k,vs,h1,h2,z030 (R:=BVr η J w) (fun c v h=>BVr.one h) i h3⟩
 | _=>exact h
theorem z04x {η:Hd} {J:Nat→Prop} {w:World} {b:Nat} {o:Obj'} (h:ObjR η J w b o):ObjR η J w b (nilO o):=by
 cases o with
 | box m T cs=>obtain ⟨hx,k,vs,h1,h2,h3⟩:=h;exact ⟨hx,k,vs,h1,h2,h3.map _ (fun _ _=>zg6)⟩
 | row=>exact h
 | tree=>exact h
def frzB (b n sz:Nat) (ps:List PV):BV→BV
 | .row c=>if c=b then .any else .row c
 | .rp c sz i o=>if c=b then .any else .rp c sz i o
 | .box c o=>if c=b then .any else .box c o
 | .bx c k=>if c=b then (if k=n then .pv (.sl (ck sz n ps)) else .any) else .bx c k
 | .pr c sz i n=>if c=b then .any else .pr c sz i n
 | x=>x
theorem zr5 {s:Sx} {b n sz T:Nat} {cs:List BV} {ps:List PV} (hb:s.st[b]?=some (some (.box true T cs))) (hps:zje cs=some ps) (hl:ps.length=n*sz):Weak G s ⟨s.n,s.m,z5b (frzB b n sz ps) s.env,(z99 (frzB b n sz ps) s.st).set b none⟩:=by
 intro E0 η J a w hr
 let J':Nat→Prop:=fun k=>J k∨Own η b k
 obtain ⟨hx0,k,vs,q1,q2,q3⟩:=hr.ok.obj b _ hb
 have hp:=zgp hps q3
 have hf:∀ x v,BVr η J w x v→BVr η J' w (frzB b n sz ps x) v:=by
  intro x v h
  have mono:BVr η J' w x v:=BVr.mono (fun _ h=>.inl h) (fun _ _=>rfl) (fun _ h _=>⟨h,rfl⟩) h
  have one:=h.one
  cases x with
  | bx c len =>
   show BVr η J' w (if c=b then (if len=n then .pv (.sl (ck sz n ps)) else .any) else .bx c len) v
   split
   ·rename_i e;subst e
    split
    ·rename_i e;subst e
     obtain ⟨_,k',h1,h2⟩:=h
     rw [q1] at h1;injection h1 with h1;injection h1 with h1;injection h1 with h1
     subst h1;subst h2
     show Rd w J' (.sl (ck sz len ps)) _
     cases len with
     | zero=>exact .nil _ _
     | succ len =>
      have hlen:(ck sz (len+1) ps).length=len+1:=zr2
      have cell:∀ (i:Nat) (x:List PV) (j:Nat) (p:PV),(ck sz (len+1) ps)[i]?=some x→x[j]?=some p→∃ u,vs.toList[i*sz+j]?=some u∧Rd w J p u:=by
       intro i x j p hx hpj
       obtain ⟨_,rfl⟩:=zsm hx
       rw [List.getElem?_take] at hpj
       split at hpj
       ·rw [List.getElem?_drop] at hpj
        exact hp.get hpj
       ·cases hpj
      have:=Rd.sl (w:=w) (J:=J') (ck sz (len+1) ps) sz k 0 (len+1) (fun i j=>(vs.toList[i*sz+j]?).getD undef) (by intro e;rw [e] at hlen;cases hlen) (.inr (.inl q1)) (by omega) (fun i x hx=>(znj hl).1 x (List.mem_of_getElem? hx)) (fun i x j p hx hpj=>?_) (fun i x j p hx hpj=>?_)
      ·rw [hlen] at this;exact this
      ·obtain ⟨u,h1,h2⟩:=cell i x j p hx hpj
       rw [h1]
       simp only [World.cell?,q2,Nat.zero_add]
       simpa using h1
      ·obtain ⟨u,h1,h2⟩:=cell i x j p hx hpj
       rw [h1]
       exact Rd.mono (fun _ h=>.inl h) (fun _ _=>rfl) h2
    ·exact one
   ·exact mono
  | pr c sz i n =>
   show BVr η J' w (if c=b then .any else .pr c sz i n) v
   split
   ·exact one
   ·exact mono
  | row c =>
   show BVr η J' w (if c=b then .any else .row c) v
   split
   ·exact one
   ·exact mono
  | rp c sz i o =>
   show BVr η J' w (if c=b then .any else .rp c sz i o) v
   split
   ·exact one
   ·exact mono
  | box c o =>
   show BVr η J' w (if c=b then .any else .box c o) v
   split
   ·exact one
   ·exact mono
  | any=>exact mono
  | pv p=>exact mono
  | emp=>exact mono
  | ep xs=>exact mono
 exact ⟨η,J',hr.turn (b:=b) (o:=.box true T cs) (f:=frzB b n sz ps) (new:=none) ⟨hb,rfl,fun _ h=>h,fun _ _=>rfl,fun _ _=>rfl,fun _ h=>.inl h,rfl,rfl,rfl,Nat.le_refl _,fun _ _ _=>rfl,hf,(fun o' ho'=>by cases ho'),(fun o' k ho'=>by cases ho'),fun k hk=>hk⟩⟩
def gh (g:Gh) (s:Sx):Option Sx:=match g with
 | .fb b n sz=>match s.st[b]? with
  | some (some (.box true T cs))=>match zje cs with
   | some ps=>if ps.length=n*sz then some ⟨s.n,s.m,z5b (frzB b n sz ps) s.env,(z99 (frzB b n sz ps) s.st).set b none⟩ else none
   | none=>none
  | _=>none
 | .fz b=>match s.st[b]? with
  | some (some (.row true ch E sz xs))=>some ⟨s.n,s.m,z5b (frz b xs) s.env,(z99 (frz b xs) s.st).set b none⟩
  | _=>none
 | .lt t E sz=>match lk s.env t with
  | some [.c .emp]=>some ⟨s.n,s.m,(t,[.c (.row s.st.length)])::s.env,s.st++[some (.row true false E sz [])]⟩
  | _=>none
 | .lc b i E sz=>match s.st[b]? with
  | some (some (.box true T cs))=>match cs[i]? with
   | some .emp=>some ⟨s.n,s.m,s.env,s.st.set b (some (.box true T (cs.set i (.row s.st.length))))++[some (.row true false E sz [])]⟩
   | _=>none
  | _=>none
 | .nb b=>match s.st[b]? with
  | some (some o)=>some ⟨s.n,s.m,s.env,s.st.set b (some (nilO o))⟩
  | _=>none
 | .ac b i=>match s.st[b]? with
  | some (some o)=>some ⟨s.n,s.m,s.env,s.st.set b (some (anyO i o))⟩
  | _=>none
theorem z04y {g:Gh} {s s':Sx} (h:gh g s=some s'):Weak G s s':=by
 unfold gh at h
 split at h
 ·split at h
  ·rename_i hb
   split at h
   ·rename_i hps
    split at h
    ·rename_i hl;cases h;exact zr5 hb hps hl
    ·cases h
   ·cases h
  ·cases h
 ·split at h
  ·rename_i hb;cases h;exact zsb hb
  ·cases h
 ·split at h
  ·rename_i hb;cases h;exact zxk _ _ _ hb
  ·cases h
 ·split at h
  ·rename_i hb
   split at h
   ·rename_i hc;cases h;exact zw3 _ _ _ _ hb hc
   ·cases h
  ·cases h
 ·rename_i b
  split at h
  ·rename_i o hb
   cases h
   refine zsv (fun t xs ht=>⟨xs,ht,fun _ _ _ _ h=>h⟩) (by simp) (fun c o' hc=>?_)
   by_cases e:b=c
   ·subst e
    rw [List.getElem?_set] at hc
    simp only [if_true] at hc
    split at hc
    ·injection hc with hc;injection hc with hc;subst hc
     exact ⟨o,hb,by cases o <;> rfl,fun h=>by cases o <;> exact h,fun _ _ _ h=>z04x h⟩
    ·cases hc
   ·rw [List.getElem?_set_ne e] at hc
    exact ⟨o',hc,rfl,fun h=>h,fun _ _ _ h=>h⟩
  ·cases h
 ·rename_i b i
  split at h
  ·rename_i o hb
   cases h
   refine zsv (fun t xs ht=>⟨xs,ht,fun _ _ _ _ h=>h⟩) (by simp) (fun c o' hc=>?_)
   by_cases e:b=c
   ·subst e
    rw [List.getElem?_set] at hc
    simp only [if_true] at hc
    split at hc
    ·injection hc with hc;injection hc with hc;subst hc
     exact ⟨o,hb,by cases o <;> rfl,fun h=>by cases o <;> exact h,fun _ _ _ h=>z04w h⟩
    ·cases hc
   ·rw [List.getElem?_set_ne e] at hc
    exact ⟨o',hc,rfl,fun h=>h,fun _ _ _ h=>h⟩
  ·cases h
end
end Go.Proofs.YtimbigpplbbjaaaGreatDoor.Abs

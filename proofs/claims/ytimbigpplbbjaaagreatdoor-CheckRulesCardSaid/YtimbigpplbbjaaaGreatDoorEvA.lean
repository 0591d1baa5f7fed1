/- An evaluator of operations over abstract states: what it is told (answers), its tables, and what only looks. -/
import Derived.Test.YtimbigpplbbjaaaGreatDoorTrT
namespace Go.Proofs.YtimbigpplbbjaaaGreatDoor.Abs
open Go Go.RowKit
set_option linter.unusedVariables false
set_option linter.unusedSimpArgs false
inductive Gh where
 | fz (b:Nat)
 | lt (t E sz:Nat)
 | lc (b i E sz:Nat)
 | nb (b:Nat)
 | fb (b n sz:Nat)
 | ac (b i:Nat)
inductive Ans where
 | b (v:Bool)
 | x (v:List XV)
 | ld (v:List XV)
 | n (v:Nat)
 | i (v:Int)
 | e (v:List PV)
 | l (v:List (List PV))
 | se (e:List PV) (v:List (List PV))
 | sc (v:List BV)
 | bl (v:List (List PV))
 | own
 | bo (v:List (List PV))
 | cp (v:List (List PV))
 | c (v:List XV)
 | cb (v:List XV)
 | s (v:List XV) (st:z0q)
 | sb (v:List XV) (st:z0q)
 | ox
 | z (g:Gh)
 | o (l:List Nat)
 | ho (v:List PV)
 | sh (v:List PV)
 | ap (inf:Inf) (v:List (List PV))
 | pq (i n:Nat)
 | nm (v:Nat) (l:List (List PV))
 | zc (b:Nat) (y:List PV) (zs:List (List PV))
def conj:List Prop→Prop
 | []=>True
 | p::l=>p∧conj l
theorem z9a:∀ {l m:List Prop},conj (l++m)→conj l∧conj m
 | [],m,h=>⟨trivial,h⟩
 | p::l,m,h=>by
  have h:p∧conj (l++m):=h
  obtain ⟨h1,h2⟩:=z9a h.2
  exact ⟨⟨h.1,h1⟩,h2⟩
inductive AllL {α:Type} (p:α→Prop):List α→Prop where
 | nil:AllL p []
 | cons {x:α} {l:List α} (h:p x) (t:AllL p l):AllL p (x::l)
theorem AllL.mem {α:Type} {p:α→Prop} {l:List α} (h:AllL p l):∀ x∈l,p x:=by
 induction h with
 | nil=>intro x hx;cases hx
 | cons h _ ih =>
  intro x hx
  rcases List.mem_cons.1 hx with rfl|hx
  ·exact h
  ·exact ih x hx
structure SlQ where
 E:Nat
 agg:Bool
 sz:Nat
 bytes:Nat
 zs:List BV
structure StQ where
 pl:List (Nat × Nat)
 zs:List BV
structure Tc where
 sl:List (Nat × SlQ)
 st:List (Nat × StQ)
 ar:List (Nat × (Nat × Nat))
 zr:List (Nat × List BV)
 str:List (Nat × Unit)
 bl:List (Nat × Unit)
 eq:List (Nat × Unit)
 mkL:List (Nat × PV)
def zeroOf (P:Program) (T:Nat):Value:=((P.info? T).bind (·.zero)).getD undef
def zke (P:Program) (T:Nat):Array Field:=match P.underlying T with
 | some (.struct fs)=>fs
 | _=>#[]
structure SlOk (P:Program) (T:Nat) (q:SlQ):Prop where
 und:P.underlying T=some (.slice q.E)
 ty:Ty P q.E q.agg q.sz
 te:TyE P q.E q.sz q.bytes
 slf:SlF P T q.E q.sz (zeroOf P q.E) q.zs
 pos:0<q.bytes
structure StOk (P:Program) (T:Nat) (q:StQ):Prop where
 stf:StrF P T (zke P T) q.pl (zeroOf P T) q.zs
structure ZrOk (P:Program) (T:Nat) (cs:List BV):Prop where
 z:(P.info? T).bind (·.zero)=some (zeroOf P T)
 c:(cv (zeroOf P T)).bind XV.cells=some cs
structure EqOk (P:Program) (T:Nat):Prop where
 und:P.underlying T=some (.struct (zke P T))
 hp:P.stoodInHeld T=false
 hm:P.eqGuardType P.depth T=false
structure MkOk (P:Program) (E:Nat) (p:PV):Prop where
 c:cv (zeroOf P E)=some (.c (.pv p))
 s:(zeroOf P E).cells=#[zeroOf P E]
 z:(P.info? E).bind (·.zero)=some (zeroOf P E)
structure TcOk (P:Program) (tc:Tc):Prop where
 sl:AllL (fun e=>SlOk P e.1 e.2) tc.sl
 st:AllL (fun e=>StOk P e.1 e.2) tc.st
 ar:AllL (fun e=>P.underlying e.1=some (.array e.2.1 e.2.2)) tc.ar
 zr:AllL (fun e=>ZrOk P e.1 e.2) tc.zr
 str:AllL (fun e=>P.underlying e.1=some .string) tc.str
 bl:AllL (fun e=>P.underlying e.1=some .bool) tc.bl
 eq:AllL (fun e=>EqOk P e.1) tc.eq
 mkL:AllL (fun e=>MkOk P e.1 e.2) tc.mkL
theorem z81 {α:Type} {p:Nat × α→Prop} {l:List (Nat × α)} {T:Nat} {q:α} (h:AllL p l) (hq:as1 l T=some q):p (T,q):=h.mem _ (znh hq)
section
variable {P:Program} {G:Nat→Option (List PV)} {o:Oper} {n m:Nat} {env:List (Nat × List XV)} {st:z0q} {tb:Tb} {tc:Tc}
abbrev R0:=Option (List Prop × List XV × List Ans)
def zya (c x y:Option XV) (as:List Ans):R0:=match as,c with
 | .b v::as,some (.c (.pv (.bool q)))=>match (if v then x else y) with
  | some r=>some ([q=v],[r],as)
  | none=>none
 | _,_=>none
def zyb (P:Program) (tc:Tc) (op:BinOp) (T:Nat) (x y:Option XV) (as:List Ans):R0:=match op,x,y,as with
 | .add,some (.c (.pv (.str a))),some (.c (.pv (.str b))),.x [.c (.pv (.str v))]::as=>some ([scat a b=some v],[.c (.pv (.str v))],as)
 | .quo,some (.c (.pv (.int k a))),some (.c (.pv (.int k' b))),.i v::as=>if k=k' then some ([quo k a b=some v],[.c (.pv (.int k v))],as) else none
 | .rem,some (.c (.pv (.int k a))),some (.c (.pv (.int k' b))),.i v::as=>if k=k' then some ([rem a b=some v],[.c (.pv (.int k v))],as) else none
 | .shl,some (.c (.pv (.int k a))),some (.c (.pv (.int _ b))),.i v::as=>some ([shl k a b=some v],[.c (.pv (.int k v))],as)
 | .shr,some (.c (.pv (.int k a))),some (.c (.pv (.int _ b))),.i v::as=>some ([shr k a b=some v],[.c (.pv (.int k v))],as)
 | .eql,some (.c (.pv (.bool a))),some (.c (.pv (.bool b))),as=>(as1 tc.bl T).map fun _=>([],[.c (.pv (.bool (a==b)))],as)
 | .neq,some (.c (.pv (.bool a))),some (.c (.pv (.bool b))),as=>(as1 tc.bl T).map fun _=>([],[.c (.pv (.bool (!(a==b))))],as)
 | .eql,some (.agg cs),some (.agg ds),as=>match as1 tc.eq T,znb P cs ds (zke P T).toList with
  | some _,some r=>some ([],[.c (.pv (.bool r))],as)
  | _,_=>none
 | .neq,some (.agg cs),some (.agg ds),as=>match as1 tc.eq T,znb P cs ds (zke P T).toList with
  | some _,some r=>some ([],[.c (.pv (.bool (!r)))],as)
  | _,_=>none
 | op,x,y,as=>(z015 op x y).map fun r=>([],r,as)
theorem zyc (hC:TcOk P tc) {op:BinOp} {T U:Nat} {x y:Operand} {as as':List Ans} {r:List XV} {ps:List Prop} (ho:o.op=.binOp op T x y U) (h:zyb P tc op T (val G env x) (val G env y) as=some (ps,r,as')) (hp:conj ps):LtT P G o ⟨n,m,env,st⟩ r:=by
 unfold zyb at h
 split at h
 ·rename_i hx hy;cases h;exact cat_ ho hx hy hp.1
 ·rename_i hx hy
  split at h
  ·rename_i e;subst e;cases h;exact quo_ ho hx hy hp.1
  ·cases h
 ·rename_i hx hy
  split at h
  ·rename_i e;subst e;cases h;exact rem_ ho hx hy hp.1
  ·cases h
 ·rename_i hx hy;cases h;exact shl_ ho hx hy hp.1
 ·rename_i hx hy;cases h;exact shr_ ho hx hy hp.1
 ·rename_i hx hy
  simp only [Option.map_eq_some_iff] at h
  obtain ⟨_,ha,h⟩:=h
  cases h
  exact zql ho (z81 hC.bl ha) hx hy (.inl ⟨rfl,rfl⟩)
 ·rename_i hx hy
  simp only [Option.map_eq_some_iff] at h
  obtain ⟨_,ha,h⟩:=h
  cases h
  exact zql ho (z81 hC.bl ha) hx hy (.inr ⟨rfl,rfl⟩)
 ·rename_i hx hy
  split at h
  ·rename_i ha hf
   cases h
   have hE:=z81 hC.eq ha
   exact znc ho hE.und hE.hp hE.hm hx hy hf (.inl ⟨rfl,rfl⟩)
  ·cases h
 ·rename_i hx hy
  split at h
  ·rename_i ha hf
   cases h
   have hE:=z81 hC.eq ha
   exact znc ho hE.und hE.hp hE.hm hx hy hf (.inr ⟨rfl,rfl⟩)
  ·cases h
 ·simp only [Option.map_eq_some_iff] at h
  obtain ⟨_,ha,h⟩:=h
  cases h
  exact zuh ho ha
theorem zyd {c x y:Operand} {as as':List Ans} {r:List XV} {ps:List Prop} (ho:o.op=.pick c x y) (h:zya (val G env c) (val G env x) (val G env y) as=some (ps,r,as')) (hp:conj ps):LtT P G o ⟨n,m,env,st⟩ r:=by
 unfold zya at h
 split at h
 ·rename_i v as q hc
  split at h
  ·rename_i r' hr
   cases h
   have hq:q=v:=hp.1
   subst hq
   refine z03z ho hc (fun e=>?_) (fun e=>?_)
   ·rw [e] at hr;simpa using hr
   ·rw [e] at hr;simpa using hr
  ·cases h
 ·cases h
def zsl (G:Nat→Option (List PV)) (env:List (Nat × List XV)) (tc:Tc) (T:Nat) (ps:Array (Nat × Operand)) (as:List Ans):R0:=match as1 tc.st T,zg7 G env ps.toList with
 | some q,some ys=>match zlm (fun i=>q.pl[i]?) q.zs ys with
  | some cs=>some ([],[.agg cs],as)
  | none=>none
 | _,_=>none
theorem zw8 (hC:TcOk P tc) {T:Nat} {ps:Array (Nat × Operand)} {as as':List Ans} {r:List XV} {pr:List Prop} (ho:o.op=.build T ps) (h:zsl G env tc T ps as=some (pr,r,as')):LtT P G o ⟨n,m,env,st⟩ r:=by
 unfold zsl at h
 split at h
 ·rename_i q ys hq hy
  split at h
  ·rename_i cs hf;cases h;exact z010 ho (z81 hC.st hq).stf hy hf
  ·cases h
 ·cases h
theorem z01a {T e:TypeId} {x ix:Operand} {k:IntKind} {i:Int} {b len kk sz:Nat} {agg:Bool} (ho:o.op=.indexAddr T x ix) (hu:P.underlying T=some (.slice e)) (hT:Ty P e agg sz)
  (hx:val G env x=some (.c (.bx b len))) (hi:val G env ix=some (.c (.pv (.int k i)))) (hk:inA len i=some kk):LtT P G o ⟨n,m,env,st⟩ [.c (.box b (kk*sz))]:=by
 obtain ⟨h0,h1,rfl⟩:=inAE hk
 intro E η J a w h
 have h2:=z5i (h.val hi)
 obtain ⟨hn0,g,h3,h4⟩:=h.val hx
 refine ⟨.pointer (some ⟨g,i.toNat*sz,none⟩),?_,hn0,g,h3,rfl⟩
 simp [execOp,ho,h2,h4,Instr.indexAt,run_underlying hu,asIntOf,h0,h1,z5c hT,Addr.add_lit]
def evIx (tb:Tb) (tc:Tc) (st:z0q) (T:Nat) (x i:Option XV) (as:List Ans):R0:=match i with
 | some (.c (.pv (.int _ i)))=>match as1 tc.sl T with
  | some q=>match x,as with
   | some (.c (.pv (.sl xs))),.e y::as=>if y.length=q.sz then some ([idx xs i=some y],[.c (.ep y)],as) else none
   | some (.c (.row b)),.e y::as=>match st[b]? with
    | some (some (.row _ _ _ sz xs))=>if sz=q.sz then some ([idx xs i=some y],[.c (.rp b sz i.toNat 0)],as) else none
    | some (some (.tree _ _ _ _ sz xs))=>if sz=q.sz then some ([idx xs i=some y],[.c (.rp b sz i.toNat 0)],as) else none
    | _=>none
   | some (.c (.bx b len)),.n k::as=>some ([inA len i=some k],[.c (.box b (k*q.sz))],as)
   | _,_=>none
  | none=>match as1 tc.ar T with
   | some (len,E)=>match as1 tb.tyL E with
    | some (_,sz)=>match x,as with
     | some (.c (.box b off)),.n k::as=>some ([inA len i=some k],[.c (.box b (off+k*sz))],as)
     | some (.c (.ep ps)),.e y::as=>some ([idx (ck sz len ps) i=some y],[.c (.ep y)],as)
     | _,_=>none
    | none=>none
   | none=>none
 | _=>none
theorem z04q (hT:TbOk P tb) (hC:TcOk P tc) {T:Nat} {x i:Operand} {as as':List Ans} {r:List XV} {ps:List Prop} (ho:o.op=.indexAddr T x i) (h:evIx tb tc st T (val G env x) (val G env i) as=some (ps,r,as')) (hp:conj ps):LtT P G o ⟨n,m,env,st⟩ r:=by
 unfold evIx at h
 split at h
 ·rename_i k i' hi
  split at h
  ·rename_i q hq
   have hS:=z81 hC.sl hq
   split at h
   ·rename_i xs y as hx
    split at h
    ·rename_i hl
     cases h
     have h1:=idxE hp.1
     exact z00p ho hS.und hS.ty hx hi h1.1 h1.2 hl
    ·cases h
   ·rename_i b y as hx
    split at h
    ·rename_i sz xs hb
     split at h
     ·rename_i hz
      cases h
      have h1:=idxE hp.1
      subst hz
      exact zxf ho hS.und hS.ty hx hb hi h1.1 (by have:=(List.getElem?_eq_some_iff.1 h1.2).1;omega)
     ·cases h
    ·rename_i sz xs hb
     split at h
     ·rename_i hz
      cases h
      have h1:=idxE hp.1
      subst hz
      exact zw9 ho hS.und hS.ty hx hb hi h1.1 (by have:=(List.getElem?_eq_some_iff.1 h1.2).1;omega)
     ·cases h
    ·cases h
   ·rename_i b len k' as hx
    cases h
    exact z01a ho hS.und hS.ty hx hi hp.1
   ·cases h
  ·split at h
   ·rename_i len E ha
    have hA:P.underlying T=some (.array len E):=z81 hC.ar ha
    split at h
    ·rename_i a sz ht
     have hty:=hT.ty ht
     split at h
     ·rename_i b off k' as hx
      cases h
      exact z04f ho hA hty hx hi hp.1
     ·rename_i ps' y as hx
      cases h
      obtain ⟨h0,h1⟩:=idxE hp.1
      obtain ⟨h2,rfl⟩:=zsm h1
      intro E0 η J a w hr
      obtain ⟨v,hrun,hv⟩:=zs8 (P:=P) (G:=G) (s:=⟨n,m,env,st⟩) ho hA hty hx hi h0 (by omega) rfl E0 η J a w hr
      refine ⟨v,hrun,?_⟩
      have e:ps'.drop (i'.toNat*sz)=(ps'.drop (i'.toNat*sz)).take sz++(ps'.drop (i'.toNat*sz)).drop sz:=(List.take_append_drop _ _).symm
      rw [e] at hv
      exact z073 (η:=η) hv
     ·cases h
    ·cases h
   ·cases h
 ·cases h
def offH (hh:Option (Nat × Nat × BV)) (sz off n:Nat):Bool:=match hh with
 | some (_,q,_)=>decide (q<sz)&&(decide (q<off) || decide (off+n≤q))
 | none=>true
theorem zsn {hh:Option (Nat × Nat × BV)} {sz off n i j:Nat} (h:offH hh sz off n=true) (hj:j<n) (hs:off+n≤sz):z9j hh sz (i*sz+(off+j))=none:=by
 refine z01b (fun r q y e=>?_) (by omega)
 subst e
 simp only [offH,Bool.and_eq_true,Bool.or_eq_true,decide_eq_true_eq] at h
 omega
def evLd (tb:Tb) (T:Nat) (st:z0q) (v:Option XV) (as:List Ans):R0:=match v,as with
 | some (.c (.box b off)),.ld r::as=>match st[b]?,as1 tb.tyL T,r with
  | some (some (.box _ _ cs)),some (true,sz),[.agg ys]=>if ys.length=sz then some ([(cs.drop off).take sz=ys],r,as) else none
  | some (some (.box _ _ cs)),some (false,_),[.c y]=>some ([cs[off]?=some y],r,as)
  | _,_,_=>none
 | some (.c (.rp b sz i off)),.e y::as=>match st[b]?,as1 tb.tyL T with
  | some (some (.row _ _ _ sz' xs)),some (true,sy)=>if sz'=sz∧off+sy≤y.length then some ([xs[i]?=some y],[.agg (((y.drop off).take sy).map .pv)],as) else none
  | some (some (.row _ _ _ sz' xs)),some (false,_)=>if sz'=sz then match y[off]? with
   | some p=>some ([xs[i]?=some y],[.c (.pv p)],as)
   | none=>none
   else none
  | some (some (.tree _ _ hh _ sz' xs)),some (true,sy)=>if sz'=sz∧off+sy≤y.length∧off+sy≤sz∧offH hh sz off sy then some ([xs[i]?=some y],[.agg (((y.drop off).take sy).map ldB)],as) else none
  | some (some (.tree _ _ hh _ sz' xs)),some (false,_)=>if sz'=sz∧off<sz∧offH hh sz off 1 then match y[off]? with
   | some p=>some ([xs[i]?=some y],[.c (ldB p)],as)
   | none=>none
   else none
  | _,_=>none
 | some (.c (.rp b sz i off)),.ho y::as=>match st[b]?,as1 tb.tyL T with
  | some (some (.tree _ _ (some (r,q,z)) _ sz' xs)),some (false,_)=>if sz'=sz∧q=off∧off<y.length then some ([xs[i]?=some y,i=r],[.c z],as) else none
  | _,_=>none
 | v,as=>(zug tb T st v).map fun r=>([],r,as)
theorem z04r (hT:TbOk P tb) {T:Nat} {x:Operand} {as as':List Ans} {r:List XV} {ps:List Prop} (ho:o.op=.load T x) (h:evLd tb T st (val G env x) as=some (ps,r,as')) (hp:conj ps):LtT P G o ⟨n,m,env,st⟩ r:=by
 unfold evLd at h
 split at h
 ·rename_i b off r' as hx
  split at h
  ·rename_i cs sz ys hb ht
   split at h
   ·rename_i hl;cases h;exact zmi ho (hT.ty ht) hx hb hp.1 hl
   ·cases h
  ·rename_i cs sz y hb ht
   cases h
   exact zna ho (hT.ty ht) hx hb hp.1
  ·cases h
 ·rename_i b sz i off y as hx
  split at h
  ·rename_i sz' xs sy hb ht
   split at h
   ·rename_i hl
    cases h
    obtain ⟨e,hl⟩:=hl
    subst e
    exact zs7 ho (hT.ty ht) hx hb hp.1 hl rfl
   ·cases h
  ·rename_i sz' xs sy hb ht
   split at h
   ·rename_i e
    subst e
    split at h
    ·rename_i p hp'
     cases h
     exact zvv ho (hT.ty ht) hx hb hp.1 hp'
    ·cases h
   ·cases h
  ·rename_i hh sz' xs sy hb ht
   split at h
   ·rename_i hl
    cases h
    obtain ⟨e,h1,h2,h3⟩:=hl
    subst e
    exact zso ho (hT.ty ht) hx hb hp.1 h1 (fun j hj=>zsn h3 hj h2) rfl
   ·cases h
  ·rename_i hh sz' xs sy hb ht
   split at h
   ·rename_i e
    obtain ⟨e,h2,h3⟩:=e
    subst e
    split at h
    ·rename_i p hp'
     cases h
     exact zwa ho (hT.ty ht) hx hb hp.1 hp' (zsn (j:=0) h3 (by omega) h2)
    ·cases h
   ·cases h
  ·cases h
 ·rename_i b sz i off y as hx
  split at h
  ·rename_i r q z sz' xs sy hb ht
   split at h
   ·rename_i e
    obtain ⟨e,e2,h2⟩:=e
    subst e;subst e2
    cases h
    obtain ⟨h3,h4,_⟩:=hp
    subst h4
    exact zwb ho (hT.ty ht) hx hb h3 (List.getElem?_eq_getElem h2)
   ·cases h
  ·cases h
 ·simp only [Option.map_eq_some_iff] at h
  obtain ⟨_,ha,h⟩:=h
  cases h
  exact zqz hT ho ha
def bdv (G:Nat→Option (List PV)) (env:List (Nat × List XV)) (d:Int):Option Operand→Option Int
 | none=>some d
 | some x=>match val G env x with
  | some (.c (.pv (.int _ r)))=>some r
  | _=>none
theorem zox {d r:Int} {x:Option Operand} (h:bdv G env d x=some r):BdI G env x d r:=by
 cases x with
 | none=>injection h with h;exact h.symm
 | some x =>
  simp only [bdv] at h
  split at h
  ·rename_i k r' hv;injection h with h;subst h;exact ⟨k,hv⟩
  ·cases h
def zsp (G:Nat→Option (List PV)) (env:List (Nat × List XV)) (st:z0q) (tc:Tc) (T:Nat) (x:Option XV) (lo hi:Option Operand) (as:List Ans):R0:=match x,as with
 | some (.c (.pv (.str s))),.x [.c (.pv (.str v))]::as=>match as1 tc.str T,bdv G env 0 lo,bdv G env s.size hi with
  | some _,some a,some b=>some ([ssub s a b=some v],[.c (.pv (.str v))],as)
  | _,_,_=>none
 | some (.c (.pv (.sl xs))),.l ys::as=>match as1 tc.sl T,bdv G env 0 lo,bdv G env xs.length hi with
  | some q,some a,some b=>some ([lsub xs a b=some ys,∀ y∈xs,y.length=q.sz],[.c (.pv (.sl ys))],as)
  | _,_,_=>none
 | some (.c (.row c)),.pq i n::as=>match as1 tc.sl T,st[c]? with
  | some q,some (some (.row _ _ _ sz xs))=>match bdv G env 0 lo,bdv G env xs.length hi with
   | some a,some b=>if sz=q.sz then some ([psub xs.length a b=some (i,n)],[.c (.pr c sz i n)],as) else none
   | _,_=>none
  | _,_=>none
 | _,_=>none
theorem zwc (hC:TcOk P tc) {T:Nat} {x:Operand} {lo hi:Option Operand} {as as':List Ans} {r:List XV} {ps:List Prop} (ho:o.op=.slice T x lo hi none) (h:zsp G env st tc T (val G env x) lo hi as=some (ps,r,as')) (hp:conj ps):LtT P G o ⟨n,m,env,st⟩ r:=by
 unfold zsp at h
 split at h
 ·rename_i s v as hx
  split at h
  ·rename_i a b hu ha hb
   cases h
   exact zxx ho (z81 hC.str hu) hx (zox ha) (zox hb) hp.1
  ·cases h
 ·rename_i xs ys as hx
  split at h
  ·rename_i q a b hq ha hb
   cases h
   have hS:=z81 hC.sl hq
   obtain ⟨⟨h1,h2,h3⟩,rfl⟩:=z071 hp.1
   exact zs9 ho hS.und hS.ty hx ((zox ha).bd h1) ((zox hb).bd (by omega)) (by omega) (by omega) (.inr hp.2.1)
  ·cases h
 ·rename_i c i n' as hx
  split at h
  ·rename_i q _ _ _ sz xs hq hc
   split at h
   ·rename_i a b ha hb
    split at h
    ·rename_i e
     subst e
     cases h
     have hS:=z81 hC.sl hq
     obtain ⟨h1,h2,h3,h4⟩:=z07c hp.1
     injection h4 with h4 h5
     subst h4;subst h5
     have:=zsq (P:=P) (G:=G) (s:=⟨n,m,env,st⟩) ho hS.und hS.ty hx hc ((zox ha).bd h1) ((zox hb).bd (by omega)) (by omega) (by omega)
     rwa [show b.toNat - a.toNat=(b - a).toNat by omega] at this
    ·cases h
   ·cases h
  ·cases h
 ·cases h
def z04s (tc:Tc) (st:z0q) (T:Nat) (x:Option XV) (as:List Ans):R0:=match x,as with
 | some (.c (.pv (.str s))),as=>(as1 tc.str T).map fun _=>([],[.c (.pv (.int .i64 s.size))],as)
 | some (.c (.pv (.sl xs))),.i v::as=>(as1 tc.sl T).map fun _=>([(xs.length:Int)=v],[.c (.pv (.int .i64 v))],as)
 | some (.c (.row b)),.i v::as=>match as1 tc.sl T,st[b]? with
  | some _,some (some (.row _ _ _ _ xs))=>some ([(xs.length:Int)=v],[.c (.pv (.int .i64 v))],as)
  | some _,some (some (.tree _ _ _ _ _ xs))=>some ([(xs.length:Int)=v],[.c (.pv (.int .i64 v))],as)
  | _,_=>none
 | some (.c .emp),as=>(as1 tc.sl T).map fun _=>([],[.c (.pv (.int .i64 0))],as)
 | some (.c (.bx _ len)),as=>(as1 tc.sl T).map fun _=>([],[.c (.pv (.int .i64 len))],as)
 | _,_=>none
theorem zye {T e:TypeId} {x:Operand} {b len:Nat} (ho:o.op=.call { callee:=.builtin .len,args:=#[x],argTypes:=#[T] }) (hu:P.underlying T=some (.slice e))
  (hx:val G env x=some (.c (.bx b len))):LtT P G o ⟨n,m,env,st⟩ [.c (.pv (.int .i64 len))]:=by
 intro E η J a w h
 obtain ⟨_,g,h3,h4⟩:=h.val hx
 have:=zli (P:=P) (T:=T) (ty:=o.type) (n:=len) hu w (.inr ⟨e,some ⟨g,0,none⟩,len,rfl,rfl⟩)
 exact ⟨_,by simp [execOp,ho,resolve,invoke,builtin,h4,this],.int _ _⟩
theorem z01c (hC:TcOk P tc) {T:Nat} {x:Operand} {as as':List Ans} {r:List XV} {ps:List Prop} (ho:o.op=.call { callee:=.builtin .len,args:=#[x],argTypes:=#[T] }) (h:z04s tc st T (val G env x) as=some (ps,r,as')) (hp:conj ps):LtT P G o ⟨n,m,env,st⟩ r:=by
 unfold z04s at h
 split at h
 ·rename_i s hx
  simp only [Option.map_eq_some_iff] at h
  obtain ⟨_,ha,h⟩:=h
  cases h
  exact zvw ho (z81 hC.str ha) hx
 ·rename_i xs v as hx
  simp only [Option.map_eq_some_iff] at h
  obtain ⟨_,ha,h⟩:=h
  cases h
  have e:(xs.length:Int)=v:=hp.1
  subst e
  exact zxh ho (z81 hC.sl ha).und hx
 ·rename_i b v as hx
  split at h
  ·rename_i q ha _ _ _ xs hq hb
   cases h
   have e:(xs.length:Int)=v:=hp.1
   subst e
   exact zvx ho (z81 hC.sl hq).und hx hb
  ·rename_i q ha _ _ _ _ xs hq hb
   cases h
   have e:(xs.length:Int)=v:=hp.1
   subst e
   exact zsr ho (z81 hC.sl hq).und hx hb
  ·cases h
 ·rename_i hx
  simp only [Option.map_eq_some_iff] at h
  obtain ⟨_,ha,h⟩:=h
  cases h
  exact zvy ho (z81 hC.sl ha).und hx
 ·rename_i hx
  simp only [Option.map_eq_some_iff] at h
  obtain ⟨_,ha,h⟩:=h
  cases h
  exact zye ho (z81 hC.sl ha).und hx
 ·cases h
def zss (tb:Tb) (tc:Tc) (T:Nat) (x i:Option XV) (as:List Ans):R0:=match x,i,as with
 | some (.c (.pv (.str s))),some (.c (.pv (.int _ i))),.i v::as=>(as1 tc.str T).map fun _=>([bidx s i=some v],[.c (.pv (.int .u8 v))],as)
 | some (.agg cs),some (.c (.pv (.int _ i))),.ld r::as=>match as1 tc.ar T with
  | some (len,E)=>match as1 tb.tyL E,r with
   | some (true,sz),[.agg ys]=>if ys.length=sz∧cs.length=len*sz then some ([(inA len i).map (fun k=>(cs.drop (k*sz)).take sz)=some ys],r,as) else none
   | some (false,1),[.c y]=>some ([(inA len i).bind (fun k=>cs[k]?)=some y],r,as)
   | _,_=>none
  | none=>none
 | _,_,_=>none
theorem z07d {cs:List BV} {y:BV} {T E:TypeId} {x ix:Operand} {kk:IntKind} {i:Int} {len k:Nat} (ho:o.op=.index T x ix) (hu:P.underlying T=some (.array len E)) (hT:Ty P E false 1)
  (hx:val G env x=some (.agg cs)) (hi:val G env ix=some (.c (.pv (.int kk i)))) (h:inA len i=some k) (hc:cs[k]?=some y):LtT P G o ⟨n,m,env,st⟩ [.c y]:=by
 obtain ⟨h0,h1,rfl⟩:=inAE h
 intro En η J a w hr
 obtain ⟨vs,h2,h3⟩:=hr.val hx
 have h4:=z5i (hr.val hi)
 obtain ⟨u,h5,h6⟩:=h3.get hc
 refine ⟨u,?_,h6⟩
 have h8:=z5c hT w
 have h9:=zed hT w
 simp [execOp,ho,h2,h4,Instr.index,asIntOf,run_underlying hu,h0,h1,h8,part,h9,h5]
theorem z07e {cs ys:List BV} {T E:TypeId} {x ix:Operand} {kk:IntKind} {i:Int} {len k sz:Nat} (ho:o.op=.index T x ix) (hu:P.underlying T=some (.array len E)) (hT:Ty P E true sz)
  (hx:val G env x=some (.agg cs)) (hi:val G env ix=some (.c (.pv (.int kk i)))) (h:inA len i=some k) (hl:ys.length=sz) (hc:(cs.drop (k*sz)).take sz=ys):LtT P G o ⟨n,m,env,st⟩ [.agg ys]:=by
 obtain ⟨h0,h1,rfl⟩:=inAE h
 intro En η J a w hr
 obtain ⟨vs,h2,h3⟩:=hr.val hx
 have h4:=z5i (hr.val hi)
 have h6:=(h3.drop (i.toNat*sz)).take sz
 rw [hc] at h6
 refine ⟨.agg ((vs.drop (i.toNat*sz)).take sz).toArray,?_,⟨_,rfl,h6⟩⟩
 have h8:=z5c hT w
 have h9:=zed hT w
 have he:(vs.toArray.extract (i.toNat*sz) (i.toNat*sz+sz))=((vs.drop (i.toNat*sz)).take sz).toArray:=by
  apply Array.ext'
  simp [List.extract_eq_take_drop]
 simp [execOp,ho,h2,h4,Instr.index,asIntOf,run_underlying hu,h0,h1,h8,part,h9,he]
theorem zwd (hT:TbOk P tb) (hC:TcOk P tc) {T:Nat} {x i:Operand} {as as':List Ans} {r:List XV} {ps:List Prop} (ho:o.op=.index T x i) (h:zss tb tc T (val G env x) (val G env i) as=some (ps,r,as')) (hp:conj ps):LtT P G o ⟨n,m,env,st⟩ r:=by
 unfold zss at h
 split at h
 ·rename_i s k i' v as hx hi
  simp only [Option.map_eq_some_iff] at h
  obtain ⟨_,ha,h⟩:=h
  cases h
  exact z072 ho (z81 hC.str ha) hx hi hp.1
 ·rename_i cs k i' r' as hx hi
  split at h
  ·rename_i len E ha
   have hA:P.underlying T=some (.array len E):=z81 hC.ar ha
   split at h
   ·rename_i sz ys ht
    split at h
    ·rename_i hl
     cases h
     have h1:=hp.1
     simp only [Option.map_eq_some_iff] at h1
     obtain ⟨k',hk,h1⟩:=h1
     exact z07e ho hA (hT.ty ht) hx hi hk hl.1 h1
    ·cases h
   ·rename_i y ht
    cases h
    have h1:=hp.1
    simp only [Option.bind_eq_some_iff] at h1
    obtain ⟨k',hk,h1⟩:=h1
    exact z07d ho hA (hT.ty ht) hx hi hk h1
   ·cases h
  ·cases h
 ·cases h
end
end Go.Proofs.YtimbigpplbbjaaaGreatDoor.Abs

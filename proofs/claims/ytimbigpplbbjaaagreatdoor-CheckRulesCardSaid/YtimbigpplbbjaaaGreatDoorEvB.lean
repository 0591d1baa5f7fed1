/- The evaluator: calls, literals, what makes objects. -/
import Derived.Test.YtimbigpplbbjaaaGreatDoorEvA
namespace Go.Proofs.YtimbigpplbbjaaaGreatDoor.Abs
open Go Go.RowKit
set_option linter.unusedVariables false
set_option linter.unusedSimpArgs false
section
variable {P:Program} {G:Nat→Option (List PV)} {o:Oper} {n m:Nat} {env:List (Nat × List XV)} {st:z0q} {tb:Tb} {tc:Tc}
theorem z8o {α β:Type} {f:α→β} {xs:List α} {a:β} {l:List β} (h:xs.map f=a::l):∃ x r,xs=x::r∧f x=a∧r.map f=l:=by
 cases xs with
 | nil=>cases h
 | cons x r=>simp only [List.map_cons,List.cons.injEq] at h;exact ⟨x,r,rfl,h.1,h.2⟩
theorem zjh {α β:Type} {f:α→β} {xs:List α} (h:xs.map f=[]):xs=[]:=by simpa using h
theorem len2 {α:Type} {xs:List α} (h:xs.length=2):∃ x y,xs=[x,y]:=by
 match xs,h with
 | [x,y],_=>exact ⟨x,y,rfl⟩
theorem len3 {α:Type} {xs:List α} (h:xs.length=3):∃ x y z,xs=[x,y,z]:=by
 match xs,h with
 | [x,y,z],_=>exact ⟨x,y,z,rfl⟩
theorem len4 {α:Type} {xs:List α} (h:xs.length=4):∃ x y z u,xs=[x,y,z,u]:=by
 cases xs with
 | nil=>cases h
 | cons x r=>obtain ⟨y,z,u,rfl⟩:=len3 (xs:=r) (by simpa using h);exact ⟨x,y,z,u,rfl⟩
def evMM (mx:Bool) (xs:List (Option XV)):Option (List XV):=match xs with
 | [some (.c (.pv (.int k a))),some (.c (.pv (.int k2 b)))]=>if k=k2 then some [.c (.pv (.int k (if mx then max a b else min a b)))] else none
 | [some (.c (.pv (.int k a))),some (.c (.pv (.int k2 b))),some (.c (.pv (.int k3 c)))]=>if k=k2∧k=k3 then some [.c (.pv (.int k (if mx then max (max a b) c else min (min a b) c)))] else none
 | [some (.c (.pv (.int k a))),some (.c (.pv (.int k2 b))),some (.c (.pv (.int k3 c))),some (.c (.pv (.int k4 d)))]=>if k=k2∧k=k3∧k=k4 then some [.c (.pv (.int k (if mx then max (max (max a b) c) d else min (min (min a b) c) d)))] else none
 | _=>none
theorem zyf {mx:Bool} {xs:List Operand} {ts:List TypeId} {r:List XV} (hl:ts.length=xs.length) (ho:o.op=.call { callee:=.builtin (if mx then .max else .min),args:=xs.toArray,argTypes:=ts.toArray }) (h:evMM mx (xs.map (val G env))=some r):LtT P G o ⟨n,m,env,st⟩ r:=by
 unfold evMM at h
 split at h
 ·rename_i k a k2 b hx
  split at h
  ·rename_i e;subst e
   cases h
   obtain ⟨x,r,rfl,h1,hx⟩:=z8o hx
   obtain ⟨y,r,rfl,h2,hx⟩:=z8o hx
   obtain rfl:=zjh hx
   obtain ⟨T,U,rfl⟩:=len2 hl
   cases mx
   ·exact z041 ho h1 h2
   ·exact z042 ho h1 h2
  ·cases h
 ·rename_i k a k2 b k3 c hx
  split at h
  ·rename_i e;obtain ⟨rfl,rfl⟩:=e
   cases h
   obtain ⟨x,r,rfl,h1,hx⟩:=z8o hx
   obtain ⟨y,r,rfl,h2,hx⟩:=z8o hx
   obtain ⟨z,r,rfl,h3,hx⟩:=z8o hx
   obtain rfl:=zjh hx
   obtain ⟨T,U,V,rfl⟩:=len3 hl
   cases mx
   ·exact z04p ho h1 h2 h3
   ·exact z04o ho h1 h2 h3
  ·cases h
 ·rename_i k a k2 b k3 c k4 d hx
  split at h
  ·rename_i e;obtain ⟨rfl,rfl,rfl⟩:=e
   cases h
   obtain ⟨x,r,rfl,h1,hx⟩:=z8o hx
   obtain ⟨y,r,rfl,h2,hx⟩:=z8o hx
   obtain ⟨z,r,rfl,h3,hx⟩:=z8o hx
   obtain ⟨u,r,rfl,h4,hx⟩:=z8o hx
   obtain rfl:=zjh hx
   obtain ⟨T,U,V,X,rfl⟩:=len4 hl
   cases mx
   ·exact z04g ho h1 h2 h3 h4
   ·exact z04h ho h1 h2 h3 h4
  ·cases h
 ·cases h
def unC:List XV→Option (List BV)
 | []=>some []
 | .c x::r=>(unC r).map (x::·)
 | _=>none
theorem zyg:∀ {l:List XV} {b:List BV},unC l=some b→l=b.map XV.c
 | [],b,h=>by injection h with h;subst h;rfl
 | .c x::r,b,h=>by
  simp only [unC,Option.map_eq_some_iff] at h
  obtain ⟨c,hc,rfl⟩:=h
  rw [zyg hc];rfl
 | .u::r,b,h=>by cases h
 | .agg _::r,b,h=>by cases h
 | .fn _ _ _::r,b,h=>by cases h
def evFn (G:Nat→Option (List PV)) (env:List (Nat × List XV)) (f:Fn) (first caps:Array Operand) (as:List Ans):R0:=match (vals G env first.toList).bind unC,(vals G env caps.toList).bind unC with
 | some a,some b=>some ([],[.fn f a b],as)
 | _,_=>none
theorem z04t {f:Fn} {first caps:Array Operand} {as as':List Ans} {r:List XV} {ps:List Prop} (ho:o.op=.makeFunc f first caps) (h:evFn G env f first caps as=some (ps,r,as')):LtT P G o ⟨n,m,env,st⟩ r:=by
 unfold evFn at h
 split at h
 ·rename_i a b ha hb
  cases h
  simp only [Option.bind_eq_some_iff] at ha hb
  obtain ⟨u,hu,ha⟩:=ha
  obtain ⟨v,hv,hb⟩:=hb
  exact fnV ho (by rw [hu,zyg ha]) (by rw [hv,zyg hb])
 ·cases h
def zst (tb:Tb) (tc:Tc) (S D:Nat) (x:Option XV) (as:List Ans):R0:=match x,as with
 | some (.c (.pv (.sl xs))),.x [.c (.pv (.str v))]::as=>match as1 tc.sl S,as1 tc.str D with
  | some q,some _=>if as1 tb.ikL q.E=some .u8 then some ([∃ L:List Int,xs=L.map (fun y=>[.int .u8 y])∧v=strOfNums L],[.c (.pv (.str v))],as) else none
  | _,_=>none
 | _,_=>none
theorem zwe (hT:TbOk P tb) (hC:TcOk P tc) {S D:Nat} {x:Operand} {as as':List Ans} {r:List XV} {ps:List Prop} (ho:o.op=.convert S D x) (h:zst tb tc S D (val G env x) as=some (ps,r,as')) (hp:conj ps):LtT P G o ⟨n,m,env,st⟩ r:=by
 unfold zst at h
 split at h
 ·rename_i xs v as hx
  split at h
  ·rename_i q _ hq hd
   split at h
   ·rename_i hu
    cases h
    obtain ⟨⟨L,rfl,rfl⟩,_⟩:=hp
    exact zxy (f:=fun y=>[.int .u8 y]) (fun _=>rfl) ho (z81 hC.sl hq).und (hT.ik hu) (z81 hC.str hd) hx (.sl _)
   ·cases h
  ·cases h
 ·cases h
def zuj (P:Program) (tb:Tb) (tc:Tc) (G:Nat→Option (List PV)) (env:List (Nat × List XV)) (st:z0q) (op:Op) (as:List Ans):R0:=match op with
 | .pick c x y=>zya (val G env c) (val G env x) (val G env y) as
 | .build T ps=>zsl G env tc T ps as
 | .binOp op T x y _=>zyb P tc op T (val G env x) (val G env y) as
 | .indexAddr T x i=>evIx tb tc st T (val G env x) (val G env i) as
 | .index T x i=>zss tb tc T (val G env x) (val G env i) as
 | .load T x=>evLd tb T st (val G env x) as
 | .slice T x lo hi none=>zsp G env st tc T (val G env x) lo hi as
 | .makeFunc f a b=>evFn G env f a b as
 | .convert S D x=>match ev1 tb G env st (.convert S D x) with
  | some r=>some ([],r,as)
  | none=>zst tb tc S D (val G env x) as
 | .call c=>match c.callee,c.args.toList,c.argTypes.toList with
  | .builtin .len,[x],[T]=>z04s tc st T (val G env x) as
  | .builtin .min,xs,ts=>if ts.length=xs.length then (evMM false (xs.map (val G env))).map fun r=>([],r,as) else none
  | .builtin .max,xs,ts=>if ts.length=xs.length then (evMM true (xs.map (val G env))).map fun r=>([],r,as) else none
  | _,_,_=>none
 | op=>(ev1 tb G env st op).map fun r=>([],r,as)
theorem ze6 {c:Call} {cl:Callee} {xs:List Operand} {ts:List TypeId} (h1:c.callee=cl) (h2:c.args.toList=xs) (h3:c.argTypes.toList=ts):c={ callee:=cl,args:=xs.toArray,argTypes:=ts.toArray }:=by
 cases c
 simp only at h1 h2 h3
 subst h1;subst h2;subst h3
 simp
theorem zr0 (hT:TbOk P tb) (hC:TcOk P tc) {as as':List Ans} {r:List XV} {ps:List Prop} (h:zuj P tb tc G env st o.op as=some (ps,r,as')) (hp:conj ps):LtT P G o ⟨n,m,env,st⟩ r:=by
 generalize ho:o.op=op at h
 unfold zuj at h
 split at h
 ·exact zyd ho h hp
 ·exact zw8 hC ho h
 ·exact zyc hC ho h hp
 ·exact z04q hT hC ho h hp
 ·exact zwd hT hC ho h hp
 ·exact z04r hT ho h hp
 ·exact zwc hC ho h hp
 ·exact z04t ho h
 ·split at h
  ·rename_i hx;cases h;exact zy5 hT (by rw [ho];exact hx)
  ·exact zwe hT hC ho h hp
 ·rename_i c
  split at h
  ·rename_i x T h1 h2 h3
   rw [ze6 h1 h2 h3] at ho
   exact z01c hC ho h hp
  ·rename_i xs ts h1
   split at h
   ·rename_i hl
    simp only [Option.map_eq_some_iff] at h
    obtain ⟨_,ha,h⟩:=h
    cases h
    rw [ze6 h1 rfl rfl] at ho
    exact zyf (mx:=false) hl ho ha
   ·cases h
  ·rename_i xs ts h1
   split at h
   ·rename_i hl
    simp only [Option.map_eq_some_iff] at h
    obtain ⟨_,ha,h⟩:=h
    cases h
    rw [ze6 h1 rfl rfl] at ho
    exact zyf (mx:=true) hl ho ha
   ·cases h
  ·cases h
 ·simp only [Option.map_eq_some_iff] at h
  obtain ⟨_,ha,h⟩:=h
  cases h
  exact zy5 hT (by rw [ho];exact ha)
def Ent_ (P:Program) (f:FuncId):Prop:=∀ (args:Array Value) (w:World),(callFunc f args).run P w=.ok (.enter f args) w
def Cv (P:Program) (G:Nat→Option (List PV)) (f:FuncId) (args res:List XV):Prop:=Ent_ P f∧zng P G f args res
def Cs (P:Program) (G:Nat→Option (List PV)) (f:FuncId) (args:List XV) (st:z0q) (res:List XV) (st':z0q):Prop:=Ent_ P f∧zqx P G f args st res st'
def zyh (P:Program) (G:Nat→Option (List PV)) (env:List (Nat × List XV)) (st:z0q) (g:Operand) (xs:List Operand) (as:List Ans):R0:=match as,val G env g,vals G env xs with
 | .c res::as,some (.fn (.func f) fi ca),some ys =>
  if (((fi.map XV.c++ys++ca.map XV.c).map (XV.map nilE)).all XV.pure) then some ([Cv P G f ((fi.map XV.c++ys++ca.map XV.c).map (XV.map nilE)) res],res,as) else none
 | .cb res::as,some (.fn (.func f) fi ca),some ys =>
  if (((fi.map XV.c++ys++ca.map XV.c).map (XV.map (view st))).all XV.pure)&&res.all XV.scal then some ([Cv P G f ((fi.map XV.c++ys++ca.map XV.c).map (XV.map (view st))) res],res,as) else none
 | _,_,_=>none
theorem zwf {g:Operand} {f:FuncId} {first caps:List BV} {xs:Array Operand} {ts:Array TypeId} {args argsF res:List XV}
  (ho:o.op=.call { callee:=.value g,args:=xs,argTypes:=ts }) (hg:val G env g=some (.fn (.func f) first caps)) (hcall:Ent_ P f) (ha:vals G env xs.toList=some args)
  (hv:(first.map XV.c++args++caps.map XV.c).map (XV.map (view st))=argsF) (hp:argsF.all XV.pure=true) (hs:res.all XV.scal=true) (hM:zng P G f argsF res):FlT P G o ⟨n,m,env,st⟩ res:=by
 subst hv
 intro E η J a w hr K' Q' hK
 unfold Oper.wp
 obtain ⟨vs,hrun,hl⟩:=zim hr ho hg hcall ha
 rw [hrun,Oper.upon_enter]
 have hok:Ok G ⟨η.f,fun _=>False,η.x⟩ (JOwn η J st) w []:=⟨fun b hb=>hb.elim,fun k hk=>by
  rcases hk with hk|⟨b,o,hb,hk⟩
  ·exact hr.ok.jlt k hk
  ·exact (hr.ok.obj b o hb).lt hk,fun b o hb=>by simp at hb,fun b c o o' k hb=>by simp at hb,fun b o k hb=>by simp at hb,Glob.mono hr.ok.glob (fun _ h=>.inl h) (fun _ _=>rfl)⟩
 have hl2:L2 (XVr η (JOwn η J st) w) ((first.map XV.c++args++caps.map XV.c).map (XV.map (view st))) vs:=hl.map _ (fun _ _ h=>XVr.map (fun _ _=>zw2 hr.ok) h)
 refine (hM ⟨η.f,fun _=>False,η.x⟩ (JOwn η J st) w _ hok (zud hp hl2)).mono ?_
 rintro e w' ⟨v,η',J',r,st',rfl,⟨rfl,h2,rfl⟩,hR,hok',hex⟩
 exact hK v w' J ⟨fun _ h=>h,hex.os,hex.tape,hex.output,hex.size,fun k hk=>hex.keep k hk zou,fun k hk=>.inl hk,fun k hk=>Nat.lt_of_lt_of_le (hr.ok.jlt k hk) hex.size⟩ (z09j hs hR)
theorem zyi {g:Operand} {xs:Array Operand} {ts:Array TypeId} {as as':List Ans} {r:List XV} {ps:List Prop} (ho:o.op=.call { callee:=.value g,args:=xs,argTypes:=ts }) (h:zyh P G env st g xs.toList as=some (ps,r,as')) (hp:conj ps):FlT P G o ⟨n,m,env,st⟩ r:=by
 unfold zyh at h
 split at h
 ·rename_i res as f fi ca ys hg hy
  split at h
  ·rename_i hpu
   cases h
   exact zy4 ho hg hp.1.1 hy rfl hpu hp.1.2
  ·cases h
 ·rename_i res as f fi ca ys hg hy
  split at h
  ·rename_i hpu
   cases h
   simp only [Bool.and_eq_true] at hpu
   exact zwf ho hg hp.1.1 hy rfl hpu.1 hpu.2 hp.1.2
  ·cases h
 ·cases h
def zr1 (G:Nat→Option (List PV)) (env:List (Nat × List XV)) (tc:Tc) (T len:Nat) (ps:List (Nat × Operand)):Option (SlQ × List PV):=match as1 tc.sl T,zg7 G env ps with
 | some q,some ys=>if q.zs.length=q.sz∧len*q.sz≤16777216∧len≤16777216 then match zlm (fun i=>some (i*q.sz,q.sz)) (zhl q.zs (len*q.sz)) ys with
  | some cs=>match zje cs with
   | some pv=>if pv.length=len*q.sz then some (q,pv) else none
   | none=>none
  | none=>none
  else none
 | _,_=>none
structure zyj (P:Program) (G:Nat→Option (List PV)) (env:List (Nat × List XV)) (T len:Nat) (ps:List (Nat × Operand)) (q:SlQ) (pv:List PV):Prop where
 sl:SlOk P T q
 hz:decide (q.zs.length=q.sz∧len*q.sz≤16777216)=true
 hn:decide (len≤16777216)=true
 ex:∃ ys cs,zg7 G env ps=some ys∧zlm (fun i=>some (i*q.sz,q.sz)) (zhl q.zs (len*q.sz)) ys=some cs∧zje cs=some pv
 len:pv.length=len*q.sz
theorem zkf (hC:TcOk P tc) {T len:Nat} {ps:List (Nat × Operand)} {q:SlQ} {pv:List PV} (h:zr1 G env tc T len ps=some (q,pv)):zyj P G env T len ps q pv:=by
 unfold zr1 at h
 split at h
 ·rename_i q' ys hq hy
  split at h
  ·rename_i hc
   split at h
   ·rename_i cs hf
    split at h
    ·rename_i pv' hv
     split at h
     ·rename_i hl
      cases h
      exact ⟨z81 hC.sl hq,by simpa using ⟨hc.1,hc.2.1⟩,by simpa using hc.2.2,⟨ys,cs,hy,hf,hv⟩,hl⟩
     ·cases h
    ·cases h
   ·cases h
  ·cases h
 ·cases h
theorem zyk {sz:Nat} {xs:List (List PV)} (h:∀ x∈xs,x.length=sz):rows sz xs=true:=by
 unfold rows
 exact List.all_eq_true.2 fun x hx=>by simpa using h x hx
theorem zyj.fl {T len:Nat} {ps:Array (Nat × Operand)} {q:SlQ} {pv:List PV} (h:zyj P G env T len ps.toList q pv) (ho:o.op=.buildSlice T len ps):FlT P G o ⟨n,m,env,st⟩ [.c (.pv (.sl (ck q.sz len pv)))]:=by
 obtain ⟨ys,cs,h1,h2,h3⟩:=h.ex
 obtain ⟨h4,h5⟩:=znj h.len
 exact z011 _ ho h.sl.slf h.hz h1 h2 h3 h5 zr2 (zyk h4)
theorem zyj.bir {T len b:Nat} {ps:Array (Nat × Operand)} {q:SlQ} {pv:List PV} (h:zyj P G env T len ps.toList q pv) (ho:o.op=.buildSlice T len ps):BirT P G o ⟨n,m,env,st⟩ b (.row true false q.E q.sz (ck q.sz len pv)) [.c (.row b)]:=by
 obtain ⟨ys,cs,h1,h2,h3⟩:=h.ex
 obtain ⟨h4,h5⟩:=znj h.len
 exact zxu _ ho h.sl.slf h.hz h.hn h1 h2 h3 h5 zr2 (zyk h4)
def zwg (st:z0q):Option XV→Option (List (List PV))
 | some (.c (.pv (.sl xs)))=>some xs
 | some (.c .emp)=>some []
 | some (.c (.row b))=>match st[b]? with
  | some (some (.row _ _ _ _ xs))=>some xs
  | _=>none
 | _=>none
theorem zuk {x:Option XV} {xs:List (List PV)} (h:zwg st x=some xs):∃ y,x=some y∧Src ⟨n,m,env,st⟩ y xs:=by
 unfold zwg at h
 split at h
 ·cases h;exact ⟨_,rfl,.sl _⟩
 ·cases h;exact ⟨_,rfl,.emp⟩
 ·split at h
  ·rename_i hb;cases h;exact ⟨_,rfl,.row _ _ _ _ _ _ hb⟩
  ·cases h
 ·cases h
def App (B sz:Nat) (xs ys zs:List (List PV)):Prop:=(∀ y∈ys,y.length=sz)∧(xs.length+ys.length)*B≤140737488355328∧xs++ys=zs
def evFl (P:Program) (tb:Tb) (tc:Tc) (G:Nat→Option (List PV)) (env:List (Nat × List XV)) (st:z0q) (op:Op) (as:List Ans):R0:=match op with
 | .buildSlice T len ps=>match as with
  | .own::_=>none
  | .bo _::_=>none
  | .ox::_=>none
  | .bl xs::as=>match zr1 G env tc T len ps.toList with
   | some (q,pv)=>some ([ck q.sz len pv=xs],[.c (.pv (.sl xs))],as)
   | none=>none
  | as=>match len,ps.toList with
   | 0,[]=>match zr1 G env tc T 0 [] with
    | some _=>some ([],[.c .emp],as)
    | none=>none
   | len,ps=>match zr1 G env tc T len ps with
    | some (q,pv)=>some ([],[.c (.pv (.sl (ck q.sz len pv)))],as)
    | none=>none
 | .call c=>match c.callee,c.args.toList,c.argTypes.toList,as with
  | .value g,xs,_,as=>zyh P G env st g xs as
  | .builtin .append,[x,y],[T,T'],.cp zs::as=>match as1 tc.sl T,val G env x,zwg st (val G env y) with
   | some q,some (.c .emp),some ys=>if T=T' then some ([App q.bytes q.sz [] ys zs],[.c (.pv (.sl zs))],as) else none
   | _,_,_=>none
  | _,_,_,_=>none
 | _=>none
theorem zyl (hC:TcOk P tc) {as as':List Ans} {r:List XV} {ps:List Prop} (h:evFl P tb tc G env st o.op as=some (ps,r,as')) (hp:conj ps):FlT P G o ⟨n,m,env,st⟩ r:=by
 generalize ho:o.op=op at h
 unfold evFl at h
 split at h
 ·rename_i T len pp
  split at h
  ·cases h
  ·cases h
  ·cases h
  ·split at h
   ·rename_i q pv hl
    cases h
    have e:=hp.1
    subst e
    exact (zkf hC hl).fl ho
   ·cases h
  ·split at h
   ·rename_i hps
    split at h
    ·rename_i q hl
     cases h
     have hq:=zkf hC (show zr1 G env tc T 0 []=some (q.1,q.2) from hl)
     obtain ⟨ys,cs,h1,h2,h3⟩:=hq.ex
     have:ys=[]:=by injection h1 with h1;exact h1.symm
     subst this
     have e:pp=#[]:=by apply Array.ext';simpa using hps
     subst e
     exact z07b ho hq.sl.slf hq.hz rfl h2
    ·cases h
   ·split at h
    ·rename_i q pv hl
     cases h
     exact (zkf hC hl).fl ho
    ·cases h
 ·rename_i c
  split at h
  ·rename_i g xs ts as hc
   rw [ze6 hc rfl rfl] at ho
   exact zyi ho (by simpa using h) hp
  ·rename_i x y T T' zs as hc hx ht
   split at h
   ·rename_i q ys hq hv hs
    split at h
    ·rename_i e
     subst e
     cases h
     rw [ze6 hc hx ht] at ho
     obtain ⟨h1,h2,h3⟩:=hp.1
     obtain ⟨yv,hy,hsrc⟩:=zuk (n:=n) (m:=m) (env:=env) hs
     have hS:=z81 hC.sl hq
     simp only [List.nil_append] at h3
     subst h3
     exact zw7 ho hS.und hS.te hS.pos hv hy hsrc h1 (by simpa using h2)
    ·cases h
   ·cases h
  ·cases h
 ·cases h
def zpp:Operand→Operand→Bool
 | .tmp a,.tmp b=>a==b
 | .const (.int k a),.const (.int k' b)=>k==k'&&a==b
 | _,_=>false
theorem zoy {x y:Operand} (h:zpp x y=true):x=y:=by
 unfold zpp at h
 split at h
 ·rename_i a b
  have:a=b:=by simpa using h
  rw [this]
 ·simp only [Bool.and_eq_true,beq_iff_eq] at h
  rw [h.1,h.2]
 ·cases h
def z01d (P:Program) (tc:Tc) (G:Nat→Option (List PV)) (env:List (Nat × List XV)) (b:Nat) (op:Op) (as:List Ans):Option (List Prop × Obj' × List XV × List Ans):=match op with
 | .box T x=>match (val G env x).bind XV.cells with
  | some cs=>some ([],.box true T cs,[.c (.box b 0)],as)
  | none=>none
 | .alloc T=>match as1 tc.zr T with
  | some cs=>some ([],.box true T cs,[.c (.box b 0)],as)
  | none=>none
 | .buildSlice T len ps=>match as with
  | .own::as=>match zr1 G env tc T len ps.toList with
   | some (q,pv)=>some ([],.row true false q.E q.sz (ck q.sz len pv),[.c (.row b)],as)
   | none=>none
  | .bo xs::as=>match zr1 G env tc T len ps.toList with
   | some (q,pv)=>some ([ck q.sz len pv=xs],.row true false q.E q.sz xs,[.c (.row b)],as)
   | none=>none
  | _=>none
 | .makeSlice T x y=>match as1 tc.sl T,val G env x,as with
  | some q,some (.c (.pv (.int _ i))),.n len::as=>match q.sz,as1 tc.mkL q.E,zpp x y with
   | 1,some p,true=>some ([mkN q.bytes i=some len],.row true false q.E 1 (List.replicate len [p]),[.c (.row b)],as)
   | _,_,_=>none
  | some q,some (.c (.pv (.int _ i))),.nm len xs::as=>match q.sz,as1 tc.mkL q.E,zpp x y with
   | 1,some p,true=>some ([mkN q.bytes i=some len,List.replicate len [p]=xs],.row true false q.E 1 xs,[.c (.row b)],as)
   | _,_,_=>none
  | _,_,_=>none
 | _=>none
theorem zul (hC:TcOk P tc) {b:Nat} {as as':List Ans} {r:List XV} {ob:Obj'} {ps:List Prop} (h:z01d P tc G env b o.op as=some (ps,ob,r,as')) (hp:conj ps):BirT P G o ⟨n,m,env,st⟩ b ob r:=by
 generalize ho:o.op=op at h
 unfold z01d at h
 split at h
 ·rename_i T x
  split at h
  ·rename_i cs hc
   cases h
   simp only [Option.bind_eq_some_iff] at hc
   obtain ⟨y,hy,hc⟩:=hc
   exact z04c ho hy hc
  ·cases h
 ·rename_i T
  split at h
  ·rename_i cs hq
   cases h
   have hZ:=z81 hC.zr hq
   have hc:=hZ.c
   simp only [Option.bind_eq_some_iff] at hc
   obtain ⟨y,hy,hc⟩:=hc
   exact zxt ho hZ.z hy hc
  ·cases h
 ·rename_i T len pp
  split at h
  ·split at h
   ·rename_i q pv hl
    cases h
    exact (zkf hC hl).bir ho
   ·cases h
  ·split at h
   ·rename_i q pv hl
    cases h
    have e:=hp.1
    subst e
    exact (zkf hC hl).bir ho
   ·cases h
  ·cases h
 ·rename_i T x y
  split at h
  ·rename_i q k i len as hq hx
   split at h
   ·rename_i p hsz hmk hxy
    cases h
    have e:=zoy hxy
    subst e
    have hS:=z81 hC.sl hq
    have hM:=z81 hC.mkL hmk
    have hte:=hS.te
    rw [hsz] at hte
    exact zui ho hS.und hte hM.z hM.s hM.c hx hp.1
   ·cases h
  ·rename_i q k i len xs as hq hx
   split at h
   ·rename_i p hsz hmk hxy
    cases h
    have e:=zoy hxy
    subst e
    have hS:=z81 hC.sl hq
    have hM:=z81 hC.mkL hmk
    have hte:=hS.te
    rw [hsz] at hte
    obtain ⟨h1,h2,_⟩:=hp
    subst h2
    exact zui ho hS.und hte hM.z hM.s hM.c hx h1
   ·cases h
  ·cases h
 ·cases h
def zum (P:Program) (tc:Tc) (G:Nat→Option (List PV)) (env:List (Nat × List XV)) (b:Nat) (op:Op) (as:List Ans):Option (List Prop × Obj' × List XV × List Ans):=match op with
 | .call c=>match c.callee,c.args.toList,as with
  | .value g,xs,.sb [.c (.row 0)] [some (.row mu ch E sz ys)]::as=>match val G env g,vals G env xs with
   | some (.fn (.func f) fi ca),some zs=>if (((fi.map XV.c++zs++ca.map XV.c).map (XV.map nilE)).all XV.pure) then
     some ([Cs P G f ((fi.map XV.c++zs++ca.map XV.c).map (XV.map nilE)) [] [.c (.row 0)] [some (.row mu ch E sz ys)]],.row mu ch E sz ys,[.c (.row b)],as) else none
   | _,_=>none
  | _,_,_=>none
 | .buildSlice T len ps=>match as with
  | .ox::as=>match as1 tc.sl T,zg7 G env ps.toList with
   | some q,some ys=>if q.zs.length=q.sz∧len*q.sz≤16777216 then match zlm (fun i=>some (i*q.sz,q.sz)) (zhl q.zs (len*q.sz)) ys with
    | some cs=>some ([],.box true q.E cs,[.c (.bx b len)],as)
    | none=>none
    else none
   | _,_=>none
  | _=>none
 | _=>none
theorem z04u {T E:TypeId} {len sz b:Nat} {ps:Array (Nat × Operand)} {ys:List (Nat × XV)} {z:Value} {zs cs:List BV} (ho:o.op=.buildSlice T len ps) (hS:SlF P T E sz z zs) (hz:zs.length=sz∧len*sz≤16777216)
  (hp:zg7 G env ps.toList=some ys) (hf:zlm (fun i=>some (i*sz,sz)) (zhl zs (len*sz)) ys=some cs):BirF P G o ⟨n,m,env,st⟩ b (.box true E cs) [.c (.bx b len)]:=by
 intro E0 η J a w hrel K' Q' hK
 obtain ⟨vs,hrun,hl2⟩:=run_buildSlice ho hS (by simpa using hz) hp hf hrel
 have hw:∀ k,k<w.heap.size→(w.alloc (.cells vs E)).heap[k]?=w.heap[k]?:=fun k hk=>heap_alloc_old w _ k hk
 unfold Oper.wp
 rw [hrun,Oper.upon_value]
 refine hK _ _ J ⟨fun _ h=>h,rfl,rfl,rfl,by simp,hw,fun _ h=>.inl h,fun k hk=>by have:=hrel.ok.jlt k hk;simp;omega⟩ (fun hd=>⟨.pointer (some ⟨w.heap.size,0,none⟩),fun k hk=>zbo (.inl rfl) k hk,fun k hk hj=>?_,⟨Hd.push_x,w.heap.size,vs,Hd.push_n,heap_alloc_new w _,?_⟩,⟨.inr rfl,w.heap.size,Hd.push_n,rfl⟩⟩)
 ·have h1:=zbo (η:=η) (n:=b) (w:=w) (v:=.pointer (some ⟨w.heap.size,0,none⟩)) (.inl rfl) k hk
  have h2:=hrel.ok.jlt k hj
  omega
 ·exact hl2.mono (fun x u hx=>BVr.push hd (fun k hk=>hw k (hrel.ok.jlt k hk)) hx)
theorem z01e {g:Operand} {f:FuncId} {first caps:List BV} {xs:Array Operand} {ts:Array TypeId} {args:List XV} {mu ch:Bool} {E sz b:Nat} {ys:List (List PV)}
  (ho:o.op=.call { callee:=.value g,args:=xs,argTypes:=ts }) (hg:val G env g=some (.fn (.func f) first caps)) (hcall:Ent_ P f) (ha:vals G env xs.toList=some args)
  (hp:(((first.map XV.c++args++caps.map XV.c).map (XV.map nilE)).all XV.pure)=true) (hM:zqx P G f ((first.map XV.c++args++caps.map XV.c).map (XV.map nilE)) [] [.c (.row 0)] [some (.row mu ch E sz ys)]):BirF P G o ⟨n,m,env,st⟩ b (.row mu ch E sz ys) [.c (.row b)]:=by
 intro E0 η J a w hr K' Q' hK
 unfold Oper.wp
 obtain ⟨vs,hrun,hl⟩:=zim hr ho hg hcall ha
 rw [hrun,Oper.upon_enter]
 have hok:Ok G ⟨η.f,fun _=>False,η.x⟩ J w []:=⟨fun b hb=>hb.elim,hr.ok.jlt,fun b o hb=>by simp at hb,fun b c o o' k hb=>by simp at hb,fun b o k hb=>by simp at hb,hr.ok.glob⟩
 refine (hM ⟨η.f,fun _=>False,η.x⟩ J w _ hok (zud hp (hl.xmap (fun _ _=>zg6)))).mono ?_
 rintro e w' ⟨v,η',J',r,st',rfl,⟨rfl,rfl⟩,hR,hok',hex⟩
 have hR':BVr η' J' w' (.row 0) v:=hR
 obtain ⟨_,hv,h1⟩:=hR'
 have hob:=hok'.obj 0 (.row mu ch E sz ys) rfl
 have ow:∀ k,Own (η.push b v) b k→Own η' 0 k:=fun k hk=>by
  unfold Own at hk ⊢
  rwa [Hd.push_n,Hd.push_x,hv,← hob.1] at hk
 refine hK v w' J' ⟨hex.jj,hex.os,hex.tape,hex.output,hex.size,fun k hk=>hex.keep k hk zou,fun k hk=>(hex.jn k hk).imp id (fun h=>h.resolve_right zou),hok'.jlt⟩ (fun hd=>⟨v,fun k hk=>?_,fun k hk=>hok'.jd 0 _ k rfl (ow k hk),?_,⟨.inr rfl,Hd.push_n.symm,h1⟩⟩)
 ·rcases hex.own 0 _ k rfl (ow k hk) with h|⟨c,o',h,_⟩
  ·exact h
  ·simp at h
 ·rcases hob.2 with ⟨q1,A,q2⟩|⟨us,k,cap,q1,q2,q3,q4,q5⟩
  ·exact ⟨Hd.push_x,.inl ⟨q1,A,by rw [Hd.push_n,hv];exact q2⟩⟩
  ·exact ⟨Hd.push_x,.inr ⟨us,k,cap,by rw [Hd.push_n,hv];exact q1,q2,by rw [Hd.push_n,hv];exact q3,q4,q5⟩⟩
theorem zr3 (hC:TcOk P tc) {b:Nat} {as as':List Ans} {r:List XV} {ob:Obj'} {ps:List Prop} (h:zum P tc G env b o.op as=some (ps,ob,r,as')) (hp:conj ps):BirF P G o ⟨n,m,env,st⟩ b ob r:=by
 generalize ho:o.op=op at h
 unfold zum at h
 split at h
 ·rename_i c
  split at h
  ·rename_i g xs mu ch E sz ys as hc
   split at h
   ·rename_i f fi ca zs hg hz
    split at h
    ·rename_i hpu
     cases h
     rw [ze6 hc rfl rfl] at ho
     exact z01e ho hg hp.1.1 (by simpa using hz) hpu hp.1.2
    ·cases h
   ·cases h
  ·cases h
 ·rename_i T len pp
  split at h
  ·split at h
   ·rename_i q ys hq hy
    split at h
    ·rename_i hc
     split at h
     ·rename_i cs hf
      cases h
      exact z04u ho (z81 hC.sl hq).slf hc hy hf
     ·cases h
    ·cases h
   ·cases h
  ·cases h
 ·cases h
end
end Go.Proofs.YtimbigpplbbjaaaGreatDoor.Abs

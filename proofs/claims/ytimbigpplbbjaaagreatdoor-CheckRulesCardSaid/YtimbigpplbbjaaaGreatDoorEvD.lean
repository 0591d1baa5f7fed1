/- The evaluator: regions, in order or drawn. -/
import Derived.Test.YtimbigpplbbjaaaGreatDoorEvC
namespace Go.Proofs.YtimbigpplbbjaaaGreatDoor.Abs
open Go Go.RowKit
set_option linter.unusedVariables false
set_option linter.unusedSimpArgs false
section
variable {P:Program} {G:Nat→Option (List PV)} {ops:Array Oper} {o:Oper} {n m:Nat} {env:List (Nat × List XV)} {st:z0q} {tb:Tb} {tc:Tc}
def zwk:List Ans→Sx→Option (Sx × List Ans)
 | .z g::as,s=>match gh g s with
  | some s'=>zwk as s'
  | none=>none
 | as,s=>some (s,as)
theorem zpr:∀ {as:List Ans} {s s':Sx} {as':List Ans},zwk as s=some (s',as')→Weak G s s'
 | [],s,s',as',h=>by simp only [zwk] at h;cases h;exact Weak.refl _
 | a::as,s,s',as',h=>by
  unfold zwk at h
  split at h
  ·rename_i g as2 heq
   cases heq
   split at h
   ·rename_i s2 hg;exact (z04y hg).trans (zpr h)
   ·cases h
  ·cases h;exact Weak.refl _
def znk (ops:Array Oper) (env:List (Nat × List XV)) (o:Oper) (as:List Ans):Option (List Prop × Bool × List Ans):=match o.guard with
 | none=>some ([],true,as)
 | some (j,want)=>match (ops[j]?).bind (·.dst) with
  | some d=>match lk env d with
   | some []=>some ([],false,as)
   | some [.c (.pv (.bool b))]=>match as with
    | .b v::as=>some ([b=v],v==want,as)
    | _=>none
   | _=>none
  | none=>none
theorem zc0 {as as':List Ans} {ps:List Prop} {on:Bool} (h:znk ops env o as=some (ps,on,as')) (hp:conj ps):zfx ops o env on:=by
 unfold znk at h
 unfold zfx
 split at h
 ·rename_i hg;cases h;rw [hg]
 ·rename_i j want hg
  rw [hg]
  split at h
  ·rename_i d hd
   split at h
   ·rename_i hl;cases h;exact ⟨d,hd,.inr ⟨hl,rfl⟩⟩
   ·rename_i b hl
    split at h
    ·rename_i v as2
     cases h
     have e:b=v:=hp.1
     subst e
     exact ⟨d,hd,.inl ⟨b,hl,rfl⟩⟩
    ·cases h
   ·cases h
  ·cases h
def z01g (P:Program) (tb:Tb) (tc:Tc) (G:Nat→Option (List PV)) (s:Sx) (o:Oper) (as:List Ans):Option (List Prop × Sx × List Ans) :=
 match o.dst with
 | some t=>if t<s.n then match zuj P tb tc G s.env s.st o.op as with
  | some (p,x,as)=>some (p,⟨s.n,s.m,(t,x)::s.env,s.st⟩,as)
  | none=>match evFl P tb tc G s.env s.st o.op as with
   | some (p,x,as)=>some (p,⟨s.n,s.m,(t,x)::s.env,s.st⟩,as)
   | none=>match z01d P tc G s.env s.st.length o.op as with
    | some (p,ob,x,as)=>some (p,⟨s.n,s.m,(t,x)::s.env,s.st++[some ob]⟩,as)
    | none=>match zum P tc G s.env s.st.length o.op as with
     | some (p,ob,x,as)=>some (p,⟨s.n,s.m,(t,x)::s.env,s.st++[some ob]⟩,as)
     | none=>match evHv P tb tc G s.env s.st s.n (some t) o.op as with
      | some (p,f,st',x,as)=>some (p,⟨s.n,s.m,(t,x)::z5b f s.env,st'⟩,as)
      | none=>none
  else none
 | none=>match evHv P tb tc G s.env s.st s.n none o.op as with
  | some (p,f,st',x,as)=>some (p,⟨s.n,s.m,z5b f s.env,st'⟩,as)
  | none=>none
theorem zuo (hT:TbOk P tb) (hC:TcOk P tc) {s s':Sx} {as as':List Ans} {ps:List Prop} {K:Sx→Prop} (h:z01g P tb tc G s o as=some (ps,s',as')) (hp:conj ps) (hk:K s'):OpT P G o s K:=by
 unfold z01g at h
 split at h
 ·rename_i t hd
  split at h
  ·rename_i ht
   have ht':decide (t<s.n)=true:=by simpa using ht
   split at h
   ·rename_i p x as2 hx
    cases h
    exact z04b (n:=s.n) (m:=s.m) (env:=s.env) (st:=s.st) hd ht' (z06v (zr0 hT hC hx hp)) hk
   ·split at h
    ·rename_i p x as2 hx
     cases h
     exact z04b (n:=s.n) (m:=s.m) (env:=s.env) (st:=s.st) hd ht' (zyl hC hx hp) hk
    ·split at h
     ·rename_i p ob x as2 hx
      cases h
      exact z02u (n:=s.n) (m:=s.m) (env:=s.env) (st:=s.st) hd ht' (zul hC hx hp) rfl rfl hk
     ·split at h
      ·rename_i p ob x as2 hx
       cases h
       exact z047 (n:=s.n) (m:=s.m) (env:=s.env) (st:=s.st) hd ht (zr3 hC hx hp) hk
      ·split at h
       ·rename_i p f st' x as2 hx
        cases h
        rw [← hd] at hx
        exact zpq hT hC hx hp (fun _ _ h=>h) (by rw [hd];exact hk)
       ·cases h
  ·cases h
 ·rename_i hd
  split at h
  ·rename_i p f st' x as2 hx
   cases h
   rw [← hd] at hx
   exact zpq hT hC hx hp (fun _ _ h=>h) (by rw [hd];exact hk)
  ·cases h
theorem z07h {l:List Oper} {s:Sx} {K:Sx→Prop} {on:Bool} (hg:zfx ops o s.env on) (h1:on=true→OpT P G o s (fun s'=>OpsT P G ops l s' K))
  (h2:on=false→match o.dst with|some t=>t<s.n∧OpsT P G ops l ⟨s.n,s.m,(t,[])::s.env,s.st⟩ K|none=>OpsT P G ops l s K):OpsT P G ops (o::l) s K:=by
 intro E η J a w hr Q' hQ
 have hw:=hg.wanted (n:=s.n) (m:=s.m) (st:=s.st) hr
 refine wpList_step fun K' hK=>?_
 cases on with
 | true =>
  rw [if_pos hw]
  exact h1 rfl E η J a w hr K' Q' fun a' w' η' J' s' hO hr'=>hK _ _ (hO E η' J' a' w' hr' Q' hQ)
 | false =>
  rw [if_neg (by rw [hw];simp)]
  have h3:=h2 rfl
  split at h3
  ·rename_i t hd
   rw [hd]
   exact hK _ _ (h3.2 E η J _ w (hr.put h3.1 (x:=[]) (v:=undef) ⟨[],rfl,L2.nil⟩) Q' hQ)
  ·rename_i hd
   rw [hd]
   exact hK _ _ (h3 E η J _ w hr Q' hQ)
def zsw (P:Program) (tb:Tb) (tc:Tc) (G:Nat→Option (List PV)) (ops:Array Oper):List Oper→Sx→List Ans→Option (List Prop × Sx × List Ans)
 | [],s,as=>some ([],s,as)
 | o::l,s0,as0=>match zwk as0 s0 with
  | none=>none
  | some (s,as1)=>match znk ops s.env o as1 with
   | some (pg,true,as2)=>match z01g P tb tc G s o as2 with
    | some (p,s',as3)=>match zsw P tb tc G ops l s' as3 with
     | some (q,s'',as4)=>some (pg++p++q,s'',as4)
     | none=>none
    | none=>none
   | some (pg,false,as2)=>match o.dst with
    | some t=>if t<s.n then match zsw P tb tc G ops l ⟨s.n,s.m,(t,[])::s.env,s.st⟩ as2 with
     | some (q,s'',as4)=>some (pg++q,s'',as4)
     | none=>none
     else none
    | none=>match zsw P tb tc G ops l s as2 with
     | some (q,s'',as4)=>some (pg++q,s'',as4)
     | none=>none
   | none=>none
theorem zn1 (hT:TbOk P tb) (hC:TcOk P tc):∀ {l:List Oper} {s s':Sx} {as as':List Ans} {ps:List Prop} {K:Sx→Prop},zsw P tb tc G ops l s as=some (ps,s',as')→conj ps→K s'→OpsT P G ops l s K
 | [],s,s',as,as',ps,K,h,hp,hk=>by simp only [zsw] at h;cases h;exact z03x hk
 | o::l,s0,s',as,as',ps,K,h,hp,hk=>by
  unfold zsw at h
  split at h
  ·cases h
  ·rename_i s as1 hg
   refine OpsT.weak (zpr hg) ?_
   split at h
   ·rename_i pg as2 hgd
    split at h
    ·rename_i p s2 as3 hr
     split at h
     ·rename_i q s3 as4 ho
      cases h
      obtain ⟨h1,h2⟩:=z9a hp
      obtain ⟨h3,h4⟩:=z9a h1
      exact z07h (zc0 hgd h3) (fun _=>zuo hT hC hr h4 (zn1 hT hC ho h2 hk)) (fun e=>by cases e)
     ·cases h
    ·cases h
   ·rename_i pg as2 hgd
    refine z07h (on:=false) (zc0 hgd ?_) (fun e=>by cases e) (fun _=>?_)
    ·split at h
     ·split at h
      ·split at h
       ·cases h;exact (z9a hp).1
       ·cases h
      ·cases h
     ·split at h
      ·cases h;exact (z9a hp).1
      ·cases h
    ·split at h
     ·rename_i t hd
      split at h
      ·rename_i ht
       split at h
       ·rename_i q s3 as4 ho
        cases h
        exact ⟨ht,zn1 hT hC ho (z9a hp).2 hk⟩
       ·cases h
      ·cases h
     ·rename_i hd
      split at h
      ·rename_i q s3 as4 ho
       cases h
       exact zn1 hT hC ho (z9a hp).2 hk
      ·cases h
   ·cases h
abbrev Q1:=Option (List Prop × Kn × List XV × Option (Option Obj'))
structure Sv where
 e:Ent
 as:List Ans
 ps:List Prop
def zyr (P:Program) (tb:Tb) (tc:Tc) (G:Nat→Option (List PV)) (ops:Array Oper) (env:List (Nat × List XV)) (st:z0q) (b:Nat) (o:Oper) (as:List Ans):Option (List Prop × Kn × List XV × List Ans):=match znk ops env o as with
 | some (pg,false,as)=>some (pg,.skip,[],as)
 | some (pg,true,as)=>match zuj P tb tc G env st o.op as with
  | some (p,x,as)=>some (pg++p,.light,x,as)
  | none=>match evFl P tb tc G env st o.op as with
   | some (p,x,as)=>some (pg++p,.light,x,as)
   | none=>match z01d P tc G env b o.op as with
    | some (p,ob,x,as)=>some (pg++p,.birth b ob,x,as)
    | none=>match zum P tc G env b o.op as with
     | some (p,ob,x,as)=>some (pg++p,.birth b ob,x,as)
     | none=>none
 | none=>none
def z07i (ops:Array Oper):List Nat:=(ops.toList.foldl (fun (acc:List Nat × Nat) o=>(acc.1++[o.after.toList.foldl (fun s e=>if Region.binds .any e&&decide (e.on<acc.2) then s ||| 2 ^ e.on ||| acc.1.getD e.on 0 else s) 0],acc.2+1)) ([],0)).1
def ksOf (W:List (List Bool)) (i:Nat) (T:List Ent):List Nat:=T.filterMap fun f=>match f.k with
 | .birth b _=>if waits W f.i i then none else some b
 | _=>none
def bOf:Kn→Nat
 | .birth b _=>b
 | _=>0
def z07j:Kn→Option (Option Obj')
 | .birth _ ob=>some (some ob)
 | _=>none
def z07k (st:z0q):Kn→Option (Option Obj')
 | .birth b _=>st[b]?
 | _=>none
def okF (ops:Array Oper) (W:List (List Bool)) (n:Nat) (A:List Ent) (e:Ent) (T':List Ent) (o:Oper):Bool :=
 (match o.dst with|some t=>decide (e.t=some t)&&decide (t<n)|none=>false)&&zxn W (names ops e.i) e.i A&&zqq W (names ops e.i) e.i T' &&
 zxo W (ksOf W e.i (A++e::T')) e.i (A++e::T')&&(match e.k with|.birth b _=>(A++T').all (fun f=>match f.k with|.birth c _=>!(c==b)|_=>true)|_=>true)
def zys (P:Program) (tb:Tb) (tc:Tc) (G:Nat→Option (List PV)) (ops:Array Oper) (W:List (List Bool)) (n:Nat) (env0:List (Nat × List XV)) (st:z0q) (T:List Ent):List Ent→List Sv→Option (List Q1 × List Q1)
 | _,[]=>some ([],[])
 | A,s::T'=>match zys P tb tc G ops W n env0 st T (A++[s.e]) T' with
  | none=>none
  | some (l,r)=>if forced W T s.e || zjg s.e then some (l,r) else match ops[s.e.i]? with
   | some o=>if okF ops W n A s.e (T'.map Sv.e) o then
     some (((zyr P tb tc G ops (zfw (names ops s.e.i) (envT All env0 (T'.map Sv.e))) (kill (ksOf W s.e.i (A++s.e::T'.map Sv.e)) st) (bOf s.e.k) o s.as).map fun q=>(q.1,q.2.1,q.2.2.1,z07k st s.e.k))::l,some (s.ps,s.e.k,s.e.x,z07j s.e.k)::r)
    else none
   | none=>none
theorem zn2 (hT:TbOk P tb) (hC:TcOk P tc) {W:List (List Bool)} {env0:List (Nat × List XV)} {T:List Ent}:∀ {T':List Sv} {A:List Ent} {l r:List Q1},zys P tb tc G ops W n env0 st T A T'=some (l,r)→l=r→(∀ s∈T',conj s.ps)→Owed P G ops W n m env0 st T A (T'.map Sv.e)
 | [],A,l,r,h,he,hp=>trivial
 | s::T',A,l,r,h,he,hp=>by
  unfold zys at h
  split at h
  ·cases h
  ·rename_i l1 r1 h1
   have ps2:∀ s∈T',conj s.ps:=fun s hs=>hp s (List.mem_cons_of_mem _ hs)
   split at h
   ·rename_i hf
    cases h
    exact owT hf (zn2 hT hC h1 he ps2)
   ·rename_i hf
    split at h
    ·rename_i o ho
     split at h
     ·rename_i hk
      cases h
      simp only [List.cons.injEq] at he
      obtain ⟨e1,e2⟩:=he
      refine owF (by simpa using hf) ?_ (zn2 hT hC h1 e2 ps2)
      unfold okF at hk
      simp only [Bool.and_eq_true] at hk
      obtain ⟨⟨⟨⟨k1,k2⟩,k3⟩,k4⟩,k5⟩:=hk
      split at k1
      ·rename_i t hd
       simp only [Bool.and_eq_true,decide_eq_true_eq] at k1
       simp only [Option.map_eq_some_iff] at e1
       obtain ⟨q,hq,e1⟩:=e1
       obtain ⟨q1,q2,q3,q4⟩:=q
       simp only [Prod.mk.injEq] at e1
       obtain ⟨e3,e4,e5,e6⟩:=e1
       have hps:conj q1:=by rw [e3];exact hp s List.mem_cons_self
       refine ⟨o,t,ksOf W s.e.i (A++s.e::T'.map Sv.e),ho,hd,k1.1,k1.2,k2,k3,k4,?_⟩
       unfold zyr at hq
       split at hq
       ·rename_i pg as2 hgd
        cases hq
        rw [← e4,← e5]
        exact ⟨zc0 hgd hps,.inr rfl⟩
       ·rename_i pg as2 hgd
        split at hq
        ·rename_i p x as3 hx
         cases hq
         obtain ⟨c1,c2⟩:=z9a hps
         rw [← e4,← e5]
         exact ⟨zc0 hgd c1,z06v (zr0 hT hC hx c2)⟩
        ·split at hq
         ·rename_i p x as3 hx
          cases hq
          obtain ⟨c1,c2⟩:=z9a hps
          rw [← e4,← e5]
          exact ⟨zc0 hgd c1,zyl hC hx c2⟩
         ·split at hq
          ·rename_i p ob x as3 hx
           cases hq
           obtain ⟨c1,c2⟩:=z9a hps
           rw [← e4] at e6 k5 ⊢
           rw [← e5]
           exact ⟨zc0 hgd c1,z09e (zul hC hx c2),e6,k5⟩
          ·split at hq
           ·rename_i p ob x as3 hx
            cases hq
            obtain ⟨c1,c2⟩:=z9a hps
            rw [← e4] at e6 k5 ⊢
            rw [← e5]
            exact ⟨zc0 hgd c1,zr3 hC hx c2,e6,k5⟩
           ·cases hq
       ·cases hq
      ·cases k1
     ·cases h
    ·cases h
def z01h (f:BV→BV) (T:List Sv):List Sv:=T.map fun s=>⟨⟨s.e.i,s.e.t,s.e.x.map (XV.map f),s.e.k⟩,s.as,s.ps⟩
theorem z04z (f:BV→BV) (T:List Sv):(z01h f T).map Sv.e=mapT f (T.map Sv.e):=by
 unfold z01h mapT
 rw [List.map_map,List.map_map]
 rfl
def zsx (ops:Array Oper) (T:List Ent) (i:Nat):Bool:=match Region.ready .any ops (zmr ops T) with
 | [j]=>j==i
 | _=>false
theorem zwl {T:List Ent} {i:Nat} (h:zsx ops T i=true):Region.ready .any ops (zmr ops T)=[i]:=by
 unfold zsx at h
 split at h
 ·rename_i j hj;rw [hj,show j=i by simpa using h]
 ·cases h
abbrev R3:=Option (List Prop × (List (List Q1) × List (List Q1)) × Sx × List Ans)
def evD (P:Program) (tb:Tb) (tc:Tc) (G:Nat→Option (List PV)) (ops:Array Oper) (W:List (List Bool)) (n m:Nat):List Nat→List Sv→List (Nat × List XV)→z0q→List Ans→R3
 | [],T,env0,st,as=>if okT ops m (T.map Sv.e)&&(Region.ready .any ops (zmr ops (T.map Sv.e))).isEmpty then match zys P tb tc G ops W n env0 st (T.map Sv.e) [] T with
  | some (l,r)=>some ([],([l],[r]),⟨n,m,envT All env0 (T.map Sv.e),st⟩,as)
  | none=>none
  else none
 | i::ord,T,env0,st,as=>if T.all (fun f=>!(f.e.i==i)) then match ops[i]? with
  | none=>none
  | some o=>match zyr P tb tc G ops (zfw (names ops i) (envT All env0 (T.map Sv.e))) st st.length o as with
   | some (p,.birth b ob,x,as')=>match o.dst with
    | some t=>match evD P tb tc G ops W n m ord (⟨⟨i,some t,x,.birth b ob⟩,as,p⟩::T) env0 (st++[some ob]) as' with
     | some (q,eqs,s',as'')=>some (p++q,eqs,s',as'')
     | none=>none
    | none=>none
   | some (p,.heavy,x,as')=>none
   | some (p,k,x,as')=>match evD P tb tc G ops W n m ord (⟨⟨i,o.dst,x,k⟩,as,p⟩::T) env0 st as' with
    | some (q,eqs,s',as'')=>some (p++q,eqs,s',as'')
    | none=>none
   | none=>match znk ops (zfw (names ops i) (envT All env0 (T.map Sv.e))) o as with
    | some (pg,true,as1)=>match evHv P tb tc G (zfw (names ops i) (envT All env0 (T.map Sv.e))) st n o.dst o.op as1 with
     | some (p,f,st',x,as')=>if okT ops m (T.map Sv.e)&&zsx ops (T.map Sv.e) i&&zqq W (names ops i) i (T.map Sv.e)&&zxo W [] i (T.map Sv.e) then
       match zys P tb tc G ops W n env0 st (T.map Sv.e) [] T with
       | some (l,r)=>match evD P tb tc G ops W n m ord (⟨⟨i,o.dst,x,.heavy⟩,[],[]⟩::z01h f T) (z5b f env0) st' as' with
        | some (q,(ls,rs),s',as'')=>some (pg++p++q,(l::ls,r::rs),s',as'')
        | none=>none
       | none=>none
      else none
     | none=>none
    | _=>none
  else none
theorem z050 {b:Nat} {as as':List Ans} {p:List Prop} {b':Nat} {ob:Obj'} {x:List XV} (h:zyr P tb tc G ops env st b o as=some (p,.birth b' ob,x,as')):b'=b:=by
 unfold zyr at h
 split at h
 ·cases h
 ·split at h
  ·cases h
  ·split at h
   ·cases h
   ·split at h
    ·cases h;rfl
    ·split at h
     ·cases h;rfl
     ·cases h
 ·cases h
theorem zup (hT:TbOk P tb) (hC:TcOk P tc) {W:List (List Bool)} (hW:wOk ops W=true):∀ {ord:List Nat} {T:List Sv} {env0:List (Nat × List XV)} {st:z0q} {as as':List Ans} {ps:List Prop} {l r:List (List Q1)} {s':Sx} {K:Sx→Prop},
  evD P tb tc G ops W n m ord T env0 st as=some (ps,(l,r),s',as')→conj ps→l=r→(∀ s∈T,conj s.ps)→K s'→DrT P G ops n m env0 (T.map Sv.e) st K
 | [],T,env0,st,as,as',ps,l,r,s',K,h,hp,he,hps,hk=>by
  unfold evD at h
  split at h
  ·rename_i hc
   simp only [Bool.and_eq_true,List.isEmpty_iff] at hc
   split at h
   ·rename_i l1 r1 ho
    cases h
    simp only [List.cons.injEq,and_true] at he
    exact z09f W hW hc.1 hc.2 (zn2 hT hC ho he hps) rfl hk
   ·cases h
  ·cases h
 | i::ord,T,env0,st,as,as',ps,l,r,s',K,h,hp,he,hps,hk=>by
  unfold evD at h
  split at h
  ·rename_i hf
   have hf':(T.map Sv.e).all (fun f=>!(f.i==i))=true:=by rw [List.all_map];exact hf
   split at h
   ·cases h
   ·rename_i o ho
    split at h
    ·rename_i p b ob x as1 hx
     split at h
     ·split at h
      ·rename_i q eqs s2 as2 hd
       cases h
       obtain ⟨h1,h2⟩:=z9a hp
       have hb:=z050 hx
       subst hb
       have ih:=zup hT hC hW hd h2 he (fun s hs=>by
        rcases List.mem_cons.1 hs with rfl|hs
        ·exact h1
        ·exact hps s hs) hk
       exact db i _ x ob hf' rfl rfl ih
      ·cases h
     ·cases h
    ·cases h
    ·rename_i p k x as1 hnb hnh hx
     split at h
     ·rename_i q eqs s2 as2 hd
      cases h
      obtain ⟨h1,h2⟩:=z9a hp
      have ih:=zup hT hC hW hd h2 he (fun s hs=>by
       rcases List.mem_cons.1 hs with rfl|hs
       ·exact h1
       ·exact hps s hs) hk
      exact z048 (e:=⟨i,o.dst,x,k⟩) hf' (fun b o' e=>hnb b o' e) (fun e=>hnh e) ih
     ·cases h
    ·split at h
     ·rename_i pg as1 hgd
      split at h
      ·rename_i p f st' x as2 hv
       split at h
       ·rename_i hc
        simp only [Bool.and_eq_true] at hc
        obtain ⟨⟨⟨c1,c2⟩,c3⟩,c4⟩:=hc
        split at h
        ·rename_i l1 r1 how
         split at h
         ·rename_i q ls rs s2 as3 hd
          cases h
          obtain ⟨h1,h2⟩:=z9a hp
          obtain ⟨h3,h4⟩:=z9a h1
          simp only [List.cons.injEq] at he
          have hr:=zwl c2
          refine z049 W i ho hW c1 hr c3 c4 (zc0 hgd h3) (zn2 hT hC how he.1 hps) (t:=o.dst) (fun x' f' s'=>x'=x∧f'=f∧s'=st') (fun env henv=>?_) (fun x' f' s' hD=>?_)
          ·refine zpq (m:=m) hT hC hv h4 henv ⟨x,f,st',⟨rfl,rfl,rfl⟩,?_⟩
           unfold ent zhk
           cases o.dst <;> rfl
          ·obtain ⟨rfl,rfl,rfl⟩:=hD
           have ih:=zup hT hC hW hd h2 he.2 (fun s hs=>by
            rcases List.mem_cons.1 hs with rfl|hs
            ·exact trivial
            ·unfold z01h at hs
             obtain ⟨s0,hs0,rfl⟩:=List.mem_map.1 hs
             exact hps s0 hs0) hk
           rwa [List.map_cons,z04z] at ih
         ·cases h
        ·cases h
       ·cases h
      ·cases h
     ·cases h
  ·cases h
def zyt (P:Program) (tb:Tb) (tc:Tc) (G:Nat→Option (List PV)) (ops:Array Oper) (draw:Bool) (s:Sx) (as:List Ans):R3:=match draw with
 | false=>match zsw P tb tc G ops ops.toList s as with
  | some (p,s',as')=>some (p,([],[]),s',as')
  | none=>none
 | true=>match zwk as s with
  | some (s1,.o ord::as1)=>if wOk ops (wm (z07i ops)) then evD P tb tc G ops (wm (z07i ops)) s1.n s1.m ord [] s1.env s1.st as1 else none
  | _=>none
theorem z01i (hT:TbOk P tb) (hC:TcOk P tc) (hm:P.follows .mixedOrders=true) {id:Nat} {draw:Bool} {s s':Sx} {as as':List Ans} {ps:List Prop} {l r:List (List Q1)} {Q:Exit→Sx→Prop} (h:zyt P tb tc G ops draw s as=some (ps,(l,r),s',as')) (hp:conj ps) (he:l=r) (hk:Q .normal s'):z9w P G (.region id ops draw) s Q:=by
 have eo:ops=ops.toList.toArray:=by simp
 unfold zyt at h
 split at h
 ·split at h
  ·rename_i p s2 as2 ho
   cases h
   rw [eo]
   refine z03w ?_
   rw [← eo]
   exact zn1 hT hC ho hp hk
  ·cases h
 ·split at h
  ·rename_i s1 ord as1 hg
   split at h
   ·rename_i hW
    refine z9w.weak (zpr hg) ?_
    rw [eo]
    refine z06w (n:=s1.n) (m:=s1.m) (env:=s1.env) (st:=s1.st) hm ?_
    rw [← eo]
    exact zup hT hC hW h hp he (fun s hs=>by cases hs) hk
   ·cases h
  ·cases h
end
end Go.Proofs.YtimbigpplbbjaaaGreatDoor.Abs

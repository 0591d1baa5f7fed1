/- The evaluator: states fitted to what they are wanted as. -/
import Derived.Test.YtimbigpplbbjaaaGreatDoorEvD
namespace Go.Proofs.YtimbigpplbbjaaaGreatDoor.Abs
open Go Go.RowKit
set_option linter.unusedVariables false
set_option linter.unusedSimpArgs false
section
variable {P:Program} {G:Nat→Option (List PV)} {tb:Tb} {tc:Tc}
def fitB (t x:BV):BV:=match t,x with
 | .any,_=>.any
 | .pv _,.emp=>.pv (.sl [])
 | _,x=>x
theorem zyu (t x:BV):leB x (fitB t x):=by
 intro η J w v h
 unfold fitB
 split
 ·exact h.one
 ·obtain ⟨A,rfl⟩:=h;exact .nil A 0
 ·exact h
def fitL:List BV→List BV→List BV
 | t::ts,x::xs=>fitB t x::fitL ts xs
 | _,xs=>xs
theorem znl {η:Hd} {J:Nat→Prop} {w:World}:∀ (ts:List BV) {xs:List BV} {vs:List Value},L2 (BVr η J w) xs vs→L2 (BVr η J w) (fitL ts xs) vs
 | [],xs,vs,h=>h
 | t::ts,[],vs,h=>h
 | t::ts,x::xs,vs,h=>by
  obtain ⟨v,vs',rfl,h1,h2⟩:=h.uncons
  exact L2.cons (zyu t x _ _ _ _ h1) (znl ts h2)
def fitX (t x:XV):XV:=match t,x with
 | .u,_=>.u
 | .c a,.c b=>.c (fitB a b)
 | .agg a,.agg b=>.agg (fitL a b)
 | .fn _ a b,.fn g c d=>.fn g (fitL a c) (fitL b d)
 | _,x=>x
theorem zyv {η:Hd} {J:Nat→Prop} {w:World} (t:XV) {x:XV} {v:Value} (h:XVr η J w x v):XVr η J w (fitX t x) v:=by
 unfold fitX
 split
 ·trivial
 ·exact zyu _ _ _ _ _ _ h
 ·obtain ⟨vs,e,hl⟩:=h;exact ⟨vs,e,znl _ hl⟩
 ·obtain ⟨fs,cs,e,h1,h2⟩:=h;exact ⟨fs,cs,e,znl _ h1,znl _ h2⟩
 ·exact h
def zwm:List XV→List XV→List XV
 | t::ts,x::xs=>fitX t x::zwm ts xs
 | _,xs=>xs
theorem zuq {η:Hd} {J:Nat→Prop} {w:World}:∀ (ts:List XV) {xs:List XV} {vs:List Value},L2 (XVr η J w) xs vs→L2 (XVr η J w) (zwm ts xs) vs
 | [],xs,vs,h=>h
 | t::ts,[],vs,h=>h
 | t::ts,x::xs,vs,h=>by
  obtain ⟨v,vs',rfl,h1,h2⟩:=h.uncons
  exact L2.cons (zyv t h1) (zuq ts h2)
theorem z01j {η:Hd} {J:Nat→Prop} {w:World} (ts:List XV) {xs:List XV} {v:Value} (h:Rs η J w xs v):Rs η J w (zwm ts xs) v:=by
 match xs,h with
 | [],h =>
  obtain ⟨vs,e,hl⟩:=h
  have:=hl.unnil
  subst this
  cases ts <;> exact ⟨[],e,L2.nil⟩
 | [x],h =>
  cases ts with
  | nil=>exact h
  | cons t ts =>
   show Rs η J w (fitX t x::zwm ts []) v
   have e:zwm ts []=[]:=by cases ts <;> rfl
   rw [e]
   exact zyv t h
 | x::y::r,h =>
  obtain ⟨vs,e,hl⟩:=h
  have h2:=zuq ts hl
  cases ts with
  | nil=>exact ⟨vs,e,h2⟩
  | cons t ts=>cases ts <;> exact ⟨vs,e,h2⟩
def fitE (env:List (Nat × List XV)):List (Nat × List XV)→List (Nat × List XV)
 | []=>[]
 | (t,tx)::r=>match lk env t with
  | some xs=>(t,zwm tx xs)::fitE env r
  | none=>fitE env r
theorem zsy {env:List (Nat × List XV)} {t:Nat} {xs:List XV}:∀ {te:List (Nat × List XV)},lk (fitE env te) t=some xs→∃ ys,lk env t=some ys∧∀ η J w v,Rs η J w ys v→Rs η J w xs v
 | [],h=>by cases h
 | (u,tx)::r,h=>by
  unfold fitE at h
  split at h
  ·rename_i ys hy
   simp only [lk] at h
   split at h
   ·rename_i e;subst e;injection h with h;subst h
    exact ⟨ys,hy,fun _ _ _ _ h=>z01j tx h⟩
   ·exact zsy h
  ·exact zsy h
def fitO:Option Obj'→Option Obj'→Option Obj'
 | some (.box _ _ ts),some (.box m T cs)=>some (.box m T (fitL ts cs))
 | some (.row _ true _ _ _),some (.row m _ E sz xs)=>some (.row m true E sz xs)
 | some (.tree _ true _ _ _ _),some (.tree m _ h E sz xs)=>some (.tree m true h E sz xs)
 | none,_=>none
 | _,o=>o
def fitS:z0q→z0q→z0q
 | t::ts,o::os=>fitO t o::fitS ts os
 | _,os=>os
theorem zur:∀ (ts os:z0q),(fitS ts os).length=os.length
 | [],os=>by simp [fitS]
 | t::ts,[]=>by simp [fitS]
 | t::ts,o::os=>by simp [fitS,zur ts os]
theorem z051 {t:Option Obj'} {o o':Obj'} (h:fitO t (some o)=some o'):o'.mut=o.mut∧(o'.same=true→o.same=true)∧∀ η J w b,ObjR η J w b o→ObjR η J w b o':=by
 unfold fitO at h
 split at h
 ·rename_i e
  cases e
  cases h
  refine ⟨rfl,fun h=>h,fun η J w b h=>?_⟩
  obtain ⟨hx,k,vs,h1,h2,h3⟩:=h
  exact ⟨hx,k,vs,h1,h2,znl _ h3⟩
 ·rename_i e
  cases e
  cases h
  exact ⟨rfl,(fun h=>by cases h),fun _ _ _ _ h=>h⟩
 ·rename_i e
  cases e
  cases h
  exact ⟨rfl,(fun h=>by cases h),fun _ _ _ _ h=>h⟩
 ·cases h
 ·cases h
  exact ⟨rfl,fun h=>h,fun _ _ _ _ h=>h⟩
theorem zyw:∀ {ts os:z0q} {b:Nat} {o':Obj'},(fitS ts os)[b]?=some (some o')→∃ o,os[b]?=some (some o)∧(o'=o∨∃ t,fitO t (some o)=some o')
 | [],os,b,o',h=>⟨o',by simpa [fitS] using h,.inl rfl⟩
 | t::ts,[],b,o',h=>by simp [fitS] at h
 | t::ts,o::os,b+1,o',h=>by
  simp only [fitS,List.getElem?_cons_succ] at h
  obtain ⟨x,h1,h2⟩:=zyw h
  exact ⟨x,by simpa using h1,h2⟩
 | t::ts,o::os,0,o',h=>by
  simp only [fitS,List.getElem?_cons_zero,Option.some.injEq] at h
  cases o with
  | none =>
   unfold fitO at h
   split at h <;> simp_all
  | some o=>exact ⟨o,rfl,.inr ⟨t,h⟩⟩
theorem z07l {s t:Sx}:Weak G s ⟨s.n,s.m,fitE s.env t.env,fitS t.st s.st⟩:=by
 refine zsv (fun u xs h=>zsy h) (zur _ _) (fun b o' h=>?_)
 obtain ⟨o,h1,rfl|⟨t',h2⟩⟩:=zyw h
 ·exact ⟨o',h1,rfl,fun h=>h,fun _ _ _ h=>h⟩
 ·obtain ⟨h3,h4,h5⟩:=z051 h2
  exact ⟨o,h1,h3,h4,fun η J w h=>h5 η J w b h⟩
def frB:BV→BV→List Nat
 | .pv _,.row b=>[b]
 | _,_=>[]
def mvB:BV→BV→List (Nat × Nat)
 | .row k,.row b=>if k=b then [] else [(b,k)]
 | _,_=>[]
def zyx {β:Type} (f:BV→BV→List β):List BV→List BV→List β
 | t::ts,x::xs=>f t x++zyx f ts xs
 | _,_=>[]
def z031 {β:Type} (f:BV→BV→List β):List XV→List XV→List β
 | t::ts,x::xs=>(match t,x with
  | .c a,.c b=>f a b
  | .agg a,.agg b=>zyx f a b
  | _,_=>[])++z031 f ts xs
 | _,_=>[]
def z032 {β:Type} (f:BV→BV→List β) (env:List (Nat × List XV)):List (Nat × List XV)→List β
 | []=>[]
 | (t,tx)::r=>(match lk env t with
  | some xs=>z031 f tx xs
  | none=>[])++z032 f env r
def z033 {β:Type} (f:BV→BV→List β):z0q→z0q→List β
 | t::ts,o::os=>(match t,o with
  | some (.box _ _ a),some (.box _ _ b)=>zyx f a b
  | _,_=>[])++z033 f ts os
 | _,_=>[]
def z07m {β:Type} (f:BV→BV→List β) (t s:Sx):List β:=z032 f s.env t.env++z033 f t.st s.st
def ghD (g:Gh) (s:Sx):Sx:=match gh g s with
 | some s'=>s'
 | none=>s
theorem z07n (g:Gh) (s:Sx):Weak G s (ghD g s):=by
 unfold ghD
 split
 ·rename_i h;exact z04y h
 ·exact Weak.refl _
def ghs:List Gh→Sx→Sx
 | [],s=>s
 | g::l,s=>ghs l (ghD g s)
theorem zyy:∀ (l:List Gh) (s:Sx),Weak G s (ghs l s)
 | [],s=>Weak.refl _
 | g::l,s=>(z07n g s).trans (zyy l _)
def rowE (t:Sx) (k:Nat):Option (Nat × Nat):=match t.st[k]? with
 | some (some (.row _ _ E sz _))=>some (E,sz)
 | _=>none
def z052 (t:Sx) (env:List (Nat × List XV)):List (Nat × List XV)→List Gh
 | []=>[]
 | (u,[.c (.row k)])::r=>(match lk env u,rowE t k with
  | some [.c .emp],some (E,sz)=>[.lt u E sz]
  | _,_=>[])++z052 t env r
 | _::r=>z052 t env r
def z053 (t:Sx) (b:Nat):Nat→List BV→List BV→List Gh
 | i,.row k::ts,.emp::xs=>(match rowE t k with
  | some (E,sz)=>[.lc b i E sz]
  | none=>[])++z053 t b (i+1) ts xs
 | i,_::ts,_::xs=>z053 t b (i+1) ts xs
 | _,_,_=>[]
def z07o (t:Sx):Nat→z0q→z0q→List Gh
 | b,x::ts,o::os=>(match x,o with
  | some (.box _ _ a),some (.box _ _ c)=>z053 t b 0 a c
  | _,_=>[])++z07o t (b+1) ts os
 | _,_,_=>[]
def z07p (b:Nat) (s:Sx):Sx:=⟨s.n,s.m,s.env,s.st.set b none⟩
def unwanted (t:Sx) (mv:List (Nat × Nat)):Nat→z0q→List Nat
 | _,[]=>[]
 | b,none::r=>unwanted t mv (b+1) r
 | b,some _::r=>(match t.st[b]? with
  | some (some _)=>if mv.any (fun p=>p.2==b)&&!(mv.any (fun p=>p.1==b)) then [b] else []
  | _=>if mv.any (fun p=>p.1==b) then [] else [b])++unwanted t mv (b+1) r
def zsz:List Nat→Sx→Sx
 | [],s=>s
 | b::l,s=>zsz l (z07p b s)
theorem zp1:∀ (l:List Nat) (s:Sx),Weak G s (zsz l s)
 | [],s=>Weak.refl _
 | b::l,s=>(zxl b).trans (zp1 l _)
def mvAt (p:Nat × Nat) (s:Sx):Sx:=match s.st[p.1]?,s.st[p.2]? with
 | some (some o),some none=>if decide (s.m≤p.2) || !(o.map (mv p.1 p.2)).chd.same then ⟨s.n,s.m,z5b (mv p.1 p.2) s.env,((z99 (mv p.1 p.2) s.st).set p.1 none).set p.2 (some (o.map (mv p.1 p.2)).chd)⟩ else s
 | _,_=>s
theorem z054 (p:Nat × Nat) (s:Sx):Weak G s (mvAt p s):=by
 unfold mvAt
 split
 ·rename_i o h1 h2
  split
  ·rename_i h
   have h:s.m≤p.2∨(o.map (mv p.1 p.2)).chd.same=false:=by
    simp only [Bool.or_eq_true,decide_eq_true_eq,Bool.not_eq_true'] at h;exact h
   exact zy0 p.1 p.2 h1 h2 h
  ·exact Weak.refl _
 ·exact Weak.refl _
def z055:List (Nat × Nat)→Sx→Sx
 | [],s=>s
 | p::l,s=>z055 l (mvAt p s)
theorem zus:∀ (l:List (Nat × Nat)) (s:Sx),Weak G s (z055 l s)
 | [],s=>Weak.refl _
 | p::l,s=>(z054 p s).trans (zus l _)
def z056 (k:Nat) (s:Sx):Sx:=if decide (s.m≤k)&&decide (k≤s.st.length) then (if k=s.st.length then s else ⟨s.n,s.m,z5b (cut k) s.env,(z99 (cut k) s.st).take k⟩) else s
theorem z01k (k:Nat) (s:Sx):Weak G s (z056 k s):=by
 unfold z056
 split
 ·rename_i h
  simp only [Bool.and_eq_true,decide_eq_true_eq] at h
  split
  ·exact Weak.refl _
  ·exact z00s k (by simpa using h.1) h.2
 ·exact Weak.refl _
def padN:Nat→Sx→Sx
 | 0,s=>s
 | k+1,s=>padN k ⟨s.n,s.m,s.env,s.st++[none]⟩
theorem zyz:∀ (k:Nat) (s:Sx),Weak G s (padN k s)
 | 0,s=>Weak.refl _
 | k+1,s=>z017.trans (zyz k _)
def nubN:List Nat→List Nat
 | []=>[]
 | a::l=>if l.contains a then nubN l else a::nubN l
def fit (t s:Sx):Sx :=
 let s0:Sx:=⟨s.n,s.m,zfw (t.env.map Prod.fst) s.env,s.st⟩
 let s1:=ghs (z052 t s0.env t.env++z07o t 0 t.st s0.st) s0
 let s2:=ghs ((nubN (z07m frB t s1)).map .fz) s1
 let mvs:=z07m mvB t s2
 let s3:=zsz (unwanted t mvs 0 s2.st) s2
 let s4:=padN (t.st.length - s3.st.length) s3
 let s5:=z055 mvs s4
 let s6:=z056 t.st.length s5
 ⟨s6.n,s6.m,fitE s6.env t.env,fitS t.st s6.st⟩
theorem zr6 (t s:Sx):Weak G s (fit t s):=by
 unfold fit
 exact (zpe (s:=s) fun u xs h=>(zil h).2).trans ((zyy _ _).trans ((zyy _ _).trans ((zp1 _ _).trans ((zyz _ _).trans ((zus _ _).trans ((z01k _ _).trans z07l))))))
end
end Go.Proofs.YtimbigpplbbjaaaGreatDoor.Abs

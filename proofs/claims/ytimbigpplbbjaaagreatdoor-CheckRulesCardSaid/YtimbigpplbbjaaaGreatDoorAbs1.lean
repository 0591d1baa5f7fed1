/- Abstract states of the machine: values by value (PV), cells (BV), temporaries (XV), objects; what they say of a world. -/
import Derived.Calls
import Derived.Tactics
import Derived.Laws.AppendOwn
import Derived.Laws.OwnMore
import Derived.Deep.Draws
import Derived.Orders
import Derived.RowKit3
import Derived.Below
import Derived.KernelRfl
namespace Go.Proofs.YtimbigpplbbjaaaGreatDoor.Abs
open Go Go.RowKit
set_option linter.unusedVariables false
set_option linter.unusedSimpArgs false
inductive PV where
 | bool (b:Bool)
 | int (k:IntKind) (n:Int)
 | str (s:ByteArray)
 | sl (xs:List (List PV))
 | cst (v:Value)
 | os (t:Bool) (E sz:Nat) (xs:List (List PV))
inductive BV where
 | any
 | pv (p:PV)
 | box (b off:Nat)
 | row (b:Nat)
 | emp
 | ep (xs:List PV)
 | rp (b sz i off:Nat)
 | bx (b n:Nat)
 | pr (b sz i n:Nat)
inductive XV where
 | u
 | c (x:BV)
 | agg (xs:List BV)
 | fn (f:Fn) (first caps:List BV)
inductive Obj' where
 | box (m:Bool) (T:TypeId) (cs:List BV)
 | row (m ch:Bool) (E:TypeId) (sz:Nat) (xs:List (List PV))
 | tree (m ch:Bool) (h:Option (Nat × Nat × BV)) (E:TypeId) (sz:Nat) (xs:List (List PV))
abbrev z0q:=List (Option Obj')
def Obj'.mut:Obj'→Bool
 | .box m _ _|.row m _ _ _ _|.tree m _ _ _ _ _=>m
def Obj'.same:Obj'→Bool
 | .box _ _ _=>true
 | .row _ ch _ _ _=>!ch
 | .tree _ ch _ _ _ _=>!ch
def BV.map (f:BV→BV):BV→BV:=f
def XV.map (f:BV→BV):XV→XV
 | .u=>.u
 | .c x=>.c (f x)
 | .agg xs=>.agg (xs.map f)
 | .fn g a b=>.fn g (a.map f) (b.map f)
def Obj'.map (f:BV→BV):Obj'→Obj'
 | .box m T cs=>.box m T (cs.map f)
 | .row m ch E sz xs=>.row m ch E sz xs
 | .tree m ch h E sz xs=>.tree m ch (h.map fun q=>(q.1,q.2.1,f q.2.2)) E sz xs
structure L2 {α β:Type} (R:α→β→Prop) (xs:List α) (ys:List β):Prop where
 len:xs.length=ys.length
 at_:∀ (i:Nat) (x:α) (y:β),xs[i]?=some x→ys[i]?=some y→R x y
theorem L2.nil {α β:Type} {R:α→β→Prop}:L2 R [] []:=⟨rfl,fun i x y h=>by simp at h⟩
theorem L2.cons {α β:Type} {R:α→β→Prop} {x:α} {y:β} {xs:List α} {ys:List β} (h:R x y) (t:L2 R xs ys):L2 R (x::xs) (y::ys) :=
 ⟨by simp [t.len],fun i a b ha hb=>by
  cases i with
  | zero=>simp at ha hb;subst ha;subst hb;exact h
  | succ i=>simp at ha hb;exact t.at_ i a b ha hb⟩
theorem L2.uncons {α β:Type} {R:α→β→Prop} {x:α} {xs:List α} {ys:List β} (h:L2 R (x::xs) ys):∃ y ys',ys=y::ys'∧R x y∧L2 R xs ys':=by
 cases ys with
 | nil=>have:=h.len;simp at this
 | cons y ys=>exact ⟨y,ys,rfl,h.at_ 0 x y rfl rfl,⟨by simpa using h.len,fun i a b ha hb=>h.at_ (i+1) a b (by simpa using ha) (by simpa using hb)⟩⟩
theorem L2.unnil {α β:Type} {R:α→β→Prop} {ys:List β} (h:L2 R [] ys):ys=[]:=by
 cases ys with
 | nil=>rfl
 | cons y ys=>have:=h.len;simp at this
theorem L2.mono {α β:Type} {R R':α→β→Prop} {xs:List α} {ys:List β} (h:L2 R xs ys) (hr:∀ x y,R x y→R' x y):L2 R' xs ys :=
 ⟨h.len,fun i x y hx hy=>hr _ _ (h.at_ i x y hx hy)⟩
theorem L2.map {α β:Type} {R R':α→β→Prop} {xs:List α} {ys:List β} (h:L2 R xs ys) (f:α→α) (hr:∀ x y,R x y→R' (f x) y):L2 R' (xs.map f) ys :=
 ⟨by simpa using h.len,fun i x y hx hy=>by
  rw [List.getElem?_map] at hx
  cases hi:xs[i]? with
  | none=>rw [hi] at hx;simp at hx
  | some z=>rw [hi] at hx;simp at hx;subst hx;exact hr _ _ (h.at_ i z y hi hy)⟩
theorem L2.set {α β:Type} {R:α→β→Prop} {xs:List α} {ys:List β} (h:L2 R xs ys) (j:Nat) {x:α} {y:β} (hxy:R x y):L2 R (xs.set j x) (ys.set j y) :=
 ⟨by simpa using h.len,fun i a b ha hb=>by
  by_cases e:j=i
  ·subst e
   rw [List.getElem?_set] at ha hb
   simp at ha hb
   obtain ⟨_,rfl⟩:=ha
   obtain ⟨_,rfl⟩:=hb
   exact hxy
  ·rw [List.getElem?_set_ne e] at ha hb
   exact h.at_ i a b ha hb⟩
theorem L2.append {α β:Type} {R:α→β→Prop} {xs xs':List α} {ys ys':List β} (h:L2 R xs ys) (h':L2 R xs' ys'):L2 R (xs++xs') (ys++ys') :=
 ⟨by simp [h.len,h'.len],fun i a b ha hb=>by
  rw [List.getElem?_append] at ha hb
  rw [h.len] at ha
  by_cases e:i<ys.length
  ·rw [if_pos e] at ha hb;exact h.at_ i a b ha hb
  ·rw [if_neg e] at ha hb;exact h'.at_ _ a b ha hb⟩
theorem L2.get {α β:Type} {R:α→β→Prop} {xs:List α} {ys:List β} (h:L2 R xs ys) {i:Nat} {x:α} (hx:xs[i]?=some x):∃ y,ys[i]?=some y∧R x y:=by
 have hi:i<ys.length:=by
  rw [← h.len];exact (List.getElem?_eq_some_iff.1 hx).1
 exact ⟨ys[i],List.getElem?_eq_getElem hi,h.at_ i x _ hx (List.getElem?_eq_getElem hi)⟩
theorem L2.drop {α β:Type} {R:α→β→Prop} {xs:List α} {ys:List β} (h:L2 R xs ys) (n:Nat):L2 R (xs.drop n) (ys.drop n) :=
 ⟨by simp [h.len],fun i a b ha hb=>by rw [List.getElem?_drop] at ha hb;exact h.at_ _ a b ha hb⟩
theorem L2.take {α β:Type} {R:α→β→Prop} {xs:List α} {ys:List β} (h:L2 R xs ys) (n:Nat):L2 R (xs.take n) (ys.take n) :=
 ⟨by simp [h.len],fun i a b ha hb=>by
  rw [List.getElem?_take] at ha hb
  by_cases e:i<n
  ·rw [if_pos e] at ha hb;exact h.at_ _ a b ha hb
  ·rw [if_neg e] at ha;cases ha⟩
inductive Rd (w:World) (J:Nat→Prop):PV→Value→Prop where
 | bool (b:Bool):Rd w J (.bool b) (.bool b)
 | int (k:IntKind) (n:Int):Rd w J (.int k n) (.int k n)
 | str (s:ByteArray):Rd w J (.str s) (.string s)
 | cst (v:Value) (h:v.oneCell'=true):Rd w J (.cst v) v
 | nil (A:Option Addr) (cap:Nat):Rd w J (.sl []) (.slice A 0 cap)
 | sl (xs:List (List PV)) (sz blk off cap:Nat) (us:Nat→Nat→Value) (hne:xs≠[]) (hJ:J blk) (hc:xs.length≤cap)
   (h1:∀ (i:Nat) (x:List PV),xs[i]?=some x→x.length=sz)
   (h2:∀ (i:Nat) (x:List PV) (j:Nat) (p:PV),xs[i]?=some x→x[j]?=some p→w.cell? ⟨blk,off+(i*sz+j),none⟩=some (us i j))
   (h3:∀ (i:Nat) (x:List PV) (j:Nat) (p:PV),xs[i]?=some x→x[j]?=some p→Rd w J p (us i j)):Rd w J (.sl xs) (.slice (some ⟨blk,off,none⟩) xs.length cap)
theorem Rd.mono {w w':World} {J J':Nat→Prop} (hJ:∀ b,J b→J' b) (hw:∀ b,J b→w'.heap[b]?=w.heap[b]?) {p:PV} {v:Value} (h:Rd w J p v):Rd w' J' p v:=by
 induction h with
 | bool b=>exact .bool b
 | int k n=>exact .int k n
 | str s=>exact .str s
 | cst v h=>exact .cst v h
 | nil A cap=>exact .nil A cap
 | sl xs sz blk off cap us hne hj hc h1 h2 h3 ih =>
  refine .sl xs sz blk off cap us hne (hJ _ hj) hc h1 (fun i x j p hx hp=>?_) ih
  rw [World.cell?_of_block (a:=⟨blk,off+(i*sz+j),none⟩) (hw blk hj)]
  exact h2 i x j p hx hp
theorem Rd.one {w:World} {J:Nat→Prop} {p:PV} {v:Value} (h:Rd w J p v):v.oneCell'=true:=by
 cases h <;> first|rfl|assumption
inductive Tr (w:World) (J:Nat→Prop):PV→Value→List Nat→Prop where
 | pl (p:PV) (v:Value) (h:Rd w J p v):Tr w J p v []
 | nil (t:Bool) (E sz:Nat) (A:Option Addr):Tr w J (.os t E sz []) (.slice A 0 0) []
 | os (t:Bool) (E sz k cap:Nat) (xs:List (List PV)) (us:List Value) (bs:List (List Nat)) (hc:0<cap) (ho:w.ownsRow 0 E sz (.slice (some ⟨k,0,none⟩) xs.length cap) xs.length us) (hz:∀ x∈xs,x.length=sz)
   (hl:xs.flatten.length=us.length) (hb:us.length=bs.length) (h:∀ (i:Nat) (p:PV) (u:Value) (b:List Nat),xs.flatten[i]?=some p→us[i]?=some u→bs[i]?=some b→Tr w J p u b)
   (ht:t=true→L2 (Rd w J) xs.flatten us∧bs.flatten=[]):Tr w J (.os t E sz xs) (.slice (some ⟨k,0,none⟩) xs.length cap) (k::bs.flatten)
theorem zgm {bs:List (List Nat)} {i:Nat} {b:List Nat} {k:Nat} (h:bs[i]?=some b) (hk:k∈b):k∈bs.flatten:=List.mem_flatten.2 ⟨b,List.mem_of_getElem? h,hk⟩
theorem Tr.one {w:World} {J:Nat→Prop} {p:PV} {v:Value} {bs:List Nat} (h:Tr w J p v bs):v.oneCell'=true:=by
 cases h <;> first|rfl|exact Rd.one (by assumption)
structure Hd where
 f:Nat→Value
 d:Nat→Prop
 x:Nat→List Nat
def BVr (η:Hd) (J:Nat→Prop) (w:World):BV→Value→Prop
 | .any,v=>v.oneCell'=true
 | .pv p,v=>Rd w J p v
 | .box b off,v=>η.d b∧∃ k,η.f b=.pointer (some ⟨k,0,none⟩)∧v=.pointer (some ⟨k,off,none⟩)
 | .row b,v=>η.d b∧v=η.f b∧v.oneCell'=true
 | .emp,v=>∃ A,v=.slice A 0 0
 | .ep xs,v=>∃ (k off:Nat) (us:List Value),J k∧v=.pointer (some ⟨k,off,none⟩)∧L2 (Rd w J) xs us∧∀ (j:Nat) (u:Value),us[j]?=some u→w.cell? ⟨k,off+j,none⟩=some u
 | .rp b sz i off,v=>η.d b∧∃ k n cap,η.f b=.slice (some ⟨k,0,none⟩) n cap∧v=.pointer (some ⟨k,i*sz+off,none⟩)
 | .bx b n,v=>η.d b∧∃ k,η.f b=.pointer (some ⟨k,0,none⟩)∧v=.slice (some ⟨k,0,none⟩) n n
 | .pr b sz i n,v=>η.d b∧((n=0∧∃ A c,v=.slice A 0 c)∨∃ k len cap c,η.f b=.slice (some ⟨k,0,none⟩) len cap∧v=.slice (some ⟨k,i*sz,none⟩) n c)
theorem BVr.one {η:Hd} {J:Nat→Prop} {w:World} {x:BV} {v:Value} (h:BVr η J w x v):v.oneCell'=true:=by
 cases x with
 | any=>exact h
 | pv p=>exact Rd.one h
 | box b off=>obtain ⟨_,k,_,rfl⟩:=h;rfl
 | row b=>exact h.2.2
 | emp=>obtain ⟨A,rfl⟩:=h;rfl
 | ep xs=>obtain ⟨k,off,us,_,rfl,_⟩:=h;rfl
 | rp b sz i off=>obtain ⟨_,k,n,cap,_,rfl⟩:=h;rfl
 | bx b n=>obtain ⟨_,k,_,rfl⟩:=h;rfl
 | pr b sz i n=>obtain ⟨_,⟨_,A,c,rfl⟩|⟨k,len,cap,c,_,rfl⟩⟩:=h <;> rfl
def BV.ref:BV→Option Nat
 | .box b _|.row b|.rp b _ _ _|.bx b _|.pr b _ _ _=>some b
 | _=>none
theorem BVr.mono {η η':Hd} {J J':Nat→Prop} {w w':World} (hJ:∀ b,J b→J' b) (hw:∀ b,J b→w'.heap[b]?=w.heap[b]?) {x:BV} {v:Value}
  (hη:∀ b,η.d b→x.ref=some b→η'.d b∧η'.f b=η.f b) (h:BVr η J w x v):BVr η' J' w' x v:=by
 cases x with
 | any=>exact h
 | pv p=>exact Rd.mono hJ hw h
 | box b off=>obtain ⟨h0,k,h1,h2⟩:=h;exact ⟨(hη b h0 rfl).1,k,(hη b h0 rfl).2.trans h1,h2⟩
 | row b=>exact ⟨(hη b h.1 rfl).1,h.2.1.trans (hη b h.1 rfl).2.symm,h.2.2⟩
 | emp=>exact h
 | ep xs =>
  obtain ⟨k,off,us,hj,hv,hl,hc⟩:=h
  refine ⟨k,off,us,hJ _ hj,hv,hl.mono (fun _ _ h=>Rd.mono hJ hw h),fun j u hu=>?_⟩
  rw [World.cell?_of_block (a:=⟨k,off+j,none⟩) (hw k hj)]
  exact hc j u hu
 | rp b sz i off=>obtain ⟨h0,k,n,cap,h1,h2⟩:=h;exact ⟨(hη b h0 rfl).1,k,n,cap,(hη b h0 rfl).2.trans h1,h2⟩
 | bx b n=>obtain ⟨h0,k,h1,h2⟩:=h;exact ⟨(hη b h0 rfl).1,k,(hη b h0 rfl).2.trans h1,h2⟩
 | pr b sz i n =>
  obtain ⟨h0,h1|⟨k,len,cap,c,h1,h2⟩⟩:=h
  ·exact ⟨(hη b h0 rfl).1,.inl h1⟩
  ·exact ⟨(hη b h0 rfl).1,.inr ⟨k,len,cap,c,(hη b h0 rfl).2.trans h1,h2⟩⟩
def XVr (η:Hd) (J:Nat→Prop) (w:World):XV→Value→Prop
 | .u,_=>True
 | .c x,v=>BVr η J w x v
 | .agg xs,v=>∃ vs:List Value,v=.agg vs.toArray∧L2 (BVr η J w) xs vs
 | .fn f a b,v=>∃ fs cs:List Value,v=.func f fs.toArray cs.toArray∧L2 (BVr η J w) a fs∧L2 (BVr η J w) b cs
theorem XVr.map {η η':Hd} {J J':Nat→Prop} {w w':World} {f:BV→BV} (hf:∀ x v,BVr η J w x v→BVr η' J' w' (f x) v) {x:XV} {v:Value} (h:XVr η J w x v):XVr η' J' w' (x.map f) v:=by
 cases x with
 | u=>trivial
 | c x=>exact hf _ _ h
 | agg xs=>obtain ⟨vs,rfl,hl⟩:=h;exact ⟨vs,rfl,hl.map f hf⟩
 | fn g a b=>obtain ⟨fs,cs,rfl,h1,h2⟩:=h;exact ⟨fs,cs,rfl,h1.map f hf,h2.map f hf⟩
def Rs (η:Hd) (J:Nat→Prop) (w:World):List XV→Value→Prop
 | [x],v=>XVr η J w x v
 | xs,v=>∃ vs:List Value,v=.tuple vs.toArray∧L2 (XVr η J w) xs vs
theorem Rs.map {η η':Hd} {J J':Nat→Prop} {w w':World} {f:BV→BV} (hf:∀ x v,BVr η J w x v→BVr η' J' w' (f x) v) {xs:List XV} {v:Value} (h:Rs η J w xs v):Rs η' J' w' (xs.map (XV.map f)) v:=by
 match xs,h with
 | [],h=>obtain ⟨vs,rfl,hl⟩:=h;exact ⟨vs,rfl,hl.map (XV.map f) (fun _ _=>XVr.map hf)⟩
 | [x],h=>exact XVr.map hf h
 | x::y::r,h=>obtain ⟨vs,rfl,hl⟩:=h;exact ⟨vs,rfl,hl.map (XV.map f) (fun _ _=>XVr.map hf)⟩
def Own (η:Hd) (b:Nat) (k:Nat):Prop :=
 η.f b=.pointer (some ⟨k,0,none⟩)∨(∃ n cap,η.f b=.slice (some ⟨k,0,none⟩) n cap∧0<cap)∨k∈η.x b
def z9j (h:Option (Nat × Nat × BV)) (sz i:Nat):Option BV:=match h with
 | some (r,q,y)=>if i=r*sz+q then some y else none
 | none=>none
def CelR (η:Hd) (J:Nat→Prop) (w:World) (h:Option BV) (p:PV) (u:Value) (b:List Nat):Prop:=match h with
 | some y=>b=[]∧BVr η J w y u
 | none=>Tr w J p u b
structure TrH (η:Hd) (J:Nat→Prop) (w:World) (h:Option (Nat × Nat × BV)) (sz:Nat) (ps:List PV) (us:List Value) (bs:List (List Nat)):Prop where
 l1:ps.length=us.length
 l2:us.length=bs.length
 at_:∀ (i:Nat) (p:PV) (u:Value) (b:List Nat),ps[i]?=some p→us[i]?=some u→bs[i]?=some b→CelR η J w (z9j h sz i) p u b
def ObjR (η:Hd) (J:Nat→Prop) (w:World) (b:Nat):Obj'→Prop
 | .box _ T cs=>η.x b=[]∧∃ (k:Nat) (vs:Array Value),η.f b=.pointer (some ⟨k,0,none⟩)∧w.heap[k]?=some (.cells vs T (0,0))∧L2 (BVr η J w) cs vs.toList
 | .row _ _ E sz xs=>η.x b=[]∧((xs=[]∧∃ A,η.f b=.slice A 0 0) ∨
   ∃ us k cap,η.f b=.slice (some ⟨k,0,none⟩) xs.length cap∧0<cap∧w.ownsRow 0 E sz (η.f b) xs.length us∧L2 (Rd w J) xs.flatten us∧∀ x∈xs,x.length=sz)
 | .tree _ _ h E sz xs=>(xs=[]∧h=none∧η.x b=[]∧∃ A,η.f b=.slice A 0 0) ∨
   ∃ us k cap bs,η.f b=.slice (some ⟨k,0,none⟩) xs.length cap∧0<cap∧w.ownsRow 0 E sz (η.f b) xs.length us∧(∀ x∈xs,x.length=sz)∧TrH η J w h sz xs.flatten us bs∧η.x b=bs.flatten∧(k::bs.flatten).Nodup
def Glob (G:Nat→Option (List PV)) (J:Nat→Prop) (w:World):Prop :=
 ∀ g cs,G g=some cs→J g∧∃ (us:List Value) (T:TypeId) (fz:Nat × Nat),L2 (Rd w J) cs us∧w.heap[g]?=some (.cells us.toArray T fz)
structure Ok (G:Nat→Option (List PV)) (η:Hd) (J:Nat→Prop) (w:World) (st:z0q):Prop where
 len:∀ b,η.d b→b<st.length
 jlt:∀ b,J b→b<w.heap.size
 obj:∀ (b:Nat) (o:Obj'),st[b]?=some (some o)→ObjR η J w b o
 dis:∀ (b c:Nat) (o o':Obj') (k:Nat),st[b]?=some (some o)→st[c]?=some (some o')→Own η b k→Own η c k→b=c
 jd:∀ (b:Nat) (o:Obj') (k:Nat),st[b]?=some (some o)→Own η b k→¬ J k
 glob:Glob G J w
def Wst (η:Hd) (st:z0q) (k:Nat):Prop:=∃ (b:Nat) (o:Obj'),st[b]?=some (some o)∧o.mut=true∧Own η b k
structure Ex (η:Hd) (J:Nat→Prop) (w:World) (st:z0q) (η':Hd) (J':Nat→Prop) (w':World) (st':z0q):Prop where
 jj:∀ b,J b→J' b
 os:w'.os=w.os
 tape:w'.tape=w.tape
 output:w'.output=w.output
 size:w.heap.size≤w'.heap.size
 keep:∀ k,k<w.heap.size→¬ Wst η st k→w'.heap[k]?=w.heap[k]?
 jn:∀ k,J' k→J k∨w.heap.size≤k∨Wst η st k
 len:st.length≤st'.length
 own:∀ (b:Nat) (o:Obj') (k:Nat),st'[b]?=some (some o)→Own η' b k→w.heap.size≤k∨∃ (c:Nat) (o':Obj'),st[c]?=some (some o')∧Own η c k∧(o.mut=true→o'.mut=true)
 hdr:∀ (b:Nat) (o:Obj'),b<st.length→st'[b]?=some (some o)→o.same=true→∃ o',st[b]?=some (some o')∧o'.same=true∧η'.f b=η.f b
theorem zjb {w:World} {base e sz n:Nat} {v:Value} {us:List Value} (h:w.ownsRow base e sz v n us) {k m cap:Nat} (hv:v=.slice (some ⟨k,0,none⟩) m cap):k<w.heap.size∧∃ cur,w.heap[k]?=some (.cells cur e (0,0)):=by
 rcases h.2 with ⟨rfl,_⟩|⟨g,c,cur,rfl,hb,hg,_⟩
 ·cases hv
 ·injection hv with h1 h2 h3
  injection h1 with h1
  injection h1 with h1
  subst h1
  exact ⟨(Array.getElem?_eq_some_iff.1 hg).1,cur,hg⟩
theorem z03v {η:Hd} {b k k':Nat} (h:η.f b=.pointer (some ⟨k,0,none⟩)) (hx:η.x b=[]) (ho:Own η b k'):k'=k:=by
 rcases ho with ho|⟨n,cap,ho,hp⟩|ho
 ·rw [h] at ho;injection ho with ho;injection ho with ho;injection ho with ho;exact ho.symm
 ·rw [h] at ho;cases ho
 ·rw [hx] at ho;cases ho
theorem zgn {η:Hd} {b k:Nat} {A:Option Addr} (h:η.f b=.slice A 0 0) (hx:η.x b=[]) (ho:Own η b k):False:=by
 rcases ho with ho|⟨n,cap,ho,hp⟩|ho
 ·rw [h] at ho;cases ho
 ·rw [h] at ho;injection ho with _ _ ho;omega
 ·rw [hx] at ho;cases ho
theorem zfv {η:Hd} {b k k' n cap:Nat} (h:η.f b=.slice (some ⟨k,0,none⟩) n cap) (ho:Own η b k'):k'∈k::η.x b:=by
 rcases ho with ho|⟨n,cap,ho,hp⟩|ho
 ·rw [h] at ho;cases ho
 ·rw [h] at ho;injection ho with ho;injection ho with ho;injection ho with ho;subst ho;exact List.mem_cons_self
 ·exact List.mem_cons_of_mem _ ho
theorem Tr.lt {w:World} {J:Nat→Prop} {p:PV} {v:Value} {bs:List Nat} (h:Tr w J p v bs):∀ k∈bs,k<w.heap.size:=by
 induction h with
 | pl p v h=>intro k hk;cases hk
 | nil=>intro k hk;cases hk
 | os t E sz k cap xs us bs hc ho hz hl hb h ht ih =>
  intro k' hk
  rcases List.mem_cons.1 hk with rfl|hk
  ·exact (zjb ho rfl).1
  ·obtain ⟨b,hb1,hb2⟩:=List.mem_flatten.1 hk
   obtain ⟨i,hi⟩:=List.mem_iff_getElem?.1 hb1
   have hlt:i<bs.length:=(List.getElem?_eq_some_iff.1 hi).1
   exact ih i _ _ b (List.getElem?_eq_getElem (by omega)) (List.getElem?_eq_getElem (by omega)) hi k' hb2
theorem TrH.lt {η:Hd} {J:Nat→Prop} {w:World} {h:Option (Nat × Nat × BV)} {sz:Nat} {ps:List PV} {us:List Value} {bs:List (List Nat)} (t:TrH η J w h sz ps us bs):∀ k∈bs.flatten,k<w.heap.size:=by
 intro k hk
 obtain ⟨b,hb1,hb2⟩:=List.mem_flatten.1 hk
 obtain ⟨i,hi⟩:=List.mem_iff_getElem?.1 hb1
 have hlt:i<bs.length:=(List.getElem?_eq_some_iff.1 hi).1
 have:=t.at_ i _ _ b (List.getElem?_eq_getElem (by rw [t.l1,t.l2];exact hlt)) (List.getElem?_eq_getElem (by rw [t.l2];exact hlt)) hi
 unfold CelR at this
 split at this
 ·rw [this.1] at hb2;cases hb2
 ·exact this.lt k hb2
theorem ObjR.lt {η:Hd} {J:Nat→Prop} {w:World} {b k:Nat} {o:Obj'} (h:ObjR η J w b o) (ho:Own η b k):k<w.heap.size:=by
 cases o with
 | box m T cs =>
  obtain ⟨hx,k',vs,h1,h2,_⟩:=h
  have:=z03v h1 hx ho
  subst this
  exact (Array.getElem?_eq_some_iff.1 h2).1
 | row m ch E sz xs =>
  obtain ⟨hx,⟨_,A,h1⟩|⟨us,k',cap',h0,hc,h1,_⟩⟩:=h
  ·exact (zgn h1 hx ho).elim
  ·have:=zfv h0 ho
   rw [hx] at this
   have:=List.mem_singleton.1 this
   subst this
   exact (zjb h1 h0).1
 | tree m ch hh E sz xs =>
  rcases h with ⟨_,_,hx,A,h1⟩|⟨us,k',cap',bs,h0,hc,h1,_,ht,hx,_⟩
  ·exact (zgn h1 hx ho).elim
  ·rcases List.mem_cons.1 (zfv h0 ho) with rfl|hk
   ·exact (zjb h1 h0).1
   ·rw [hx] at hk;exact ht.lt k hk
theorem zhe {w w':World} {base e sz n:Nat} {v:Value} {us:List Value} (h:w.ownsRow base e sz v n us) (hk:∀ k m cap,v=.slice (some ⟨k,0,none⟩) m cap→w'.heap[k]?=w.heap[k]?):w'.ownsRow base e sz v n us:=by
 refine ⟨h.1,?_⟩
 rcases h.2 with h2|⟨g,c,cur,rfl,hb,hg,r⟩
 ·exact .inl h2
 ·exact .inr ⟨g,c,cur,rfl,hb,(hk g n c rfl).trans hg,r⟩
theorem Tr.mono {w w':World} {J J':Nat→Prop} {p:PV} {v:Value} {bs:List Nat} (h:Tr w J p v bs) (hR:∀ p v,Rd w J p v→Rd w' J' p v) (hb:∀ k∈bs,w'.heap[k]?=w.heap[k]?):Tr w' J' p v bs:=by
 induction h with
 | pl p v h=>exact .pl p v (hR _ _ h)
 | nil t E sz A=>exact .nil t E sz A
 | os t E sz k cap xs us bs hc ho hz hl hb' h ht ih =>
  refine .os t E sz k cap xs us bs hc (zhe ho (fun k' m c hv=>?_)) hz hl hb' (fun i p u b h1 h2 h3=>ih i p u b h1 h2 h3 (fun k hk=>hb k (List.mem_cons_of_mem _ (zgm h3 hk)))) (fun e=>⟨(ht e).1.mono hR,(ht e).2⟩)
  injection hv with hv
  injection hv with hv
  injection hv with hv
  subst hv
  exact hb _ List.mem_cons_self
theorem TrH.mono {η η':Hd} {J J':Nat→Prop} {w w':World} {f:BV→BV} {h:Option (Nat × Nat × BV)} {sz:Nat} {ps:List PV} {us:List Value} {bs:List (List Nat)} (t:TrH η J w h sz ps us bs) (hR:∀ p v,Rd w J p v→Rd w' J' p v) (hb:∀ k∈bs.flatten,w'.heap[k]?=w.heap[k]?)
  (hf:∀ x v,BVr η J w x v→BVr η' J' w' (f x) v):TrH η' J' w' (h.map fun q=>(q.1,q.2.1,f q.2.2)) sz ps us bs:=by
 refine ⟨t.l1,t.l2,fun i p u b h1 h2 h3=>?_⟩
 have:=t.at_ i p u b h1 h2 h3
 cases h with
 | none=>exact this.mono hR (fun k hk=>hb k (zgm h3 hk))
 | some q =>
  obtain ⟨r,q,y⟩:=q
  simp only [z9j,Option.map_some] at this ⊢
  split
  ·rename_i e
   rw [if_pos e] at this
   exact ⟨this.1,hf _ _ this.2⟩
  ·rename_i e
   rw [if_neg e] at this
   exact Tr.mono this hR (fun k hk=>hb k (zgm h3 hk))
theorem ObjR.map2 {η η':Hd} {J J':Nat→Prop} {w w':World} {f:BV→BV} {b c:Nat} {o:Obj'} (h:ObjR η J w b o) (hη:η'.f c=η.f b) (hx:η'.x c=η.x b) (hb:∀ k,Own η b k→w'.heap[k]?=w.heap[k]?)
  (hf:∀ x v,BVr η J w x v→BVr η' J' w' (f x) v) (hR:∀ p v,Rd w J p v→Rd w' J' p v):ObjR η' J' w' c (o.map f):=by
 cases o with
 | box m T cs =>
  obtain ⟨h0,k,vs,h1,h2,h3⟩:=h
  exact ⟨hx.trans h0,k,vs,by rw [hη];exact h1,by rw [hb k (.inl h1)];exact h2,h3.map f hf⟩
 | row m ch E sz xs =>
  obtain ⟨h0,⟨h0',A,h1⟩|⟨us,k,cap,h0',hc,h1,h2,h3⟩⟩:=h
  ·exact ⟨hx.trans h0,.inl ⟨h0',A,hη.trans h1⟩⟩
  ·refine ⟨hx.trans h0,.inr ⟨us,k,cap,hη.trans h0',hc,?_,h2.mono (fun _ _ h=>hR _ _ h),h3⟩⟩
   rw [hη]
   refine zhe h1 (fun k' m cap' hv=>hb k' (.inr (.inl ⟨m,cap',hv,?_⟩)))
   rw [h0'] at hv;injection hv with _ _ hv;omega
 | tree m ch hh E sz xs =>
  rcases h with ⟨h0,h00,h0',A,h1⟩|⟨us,k,cap,bs,h0,hc,h1,h2,h3,h4,h5⟩
  ·subst h00;exact .inl ⟨h0,rfl,hx.trans h0',A,hη.trans h1⟩
  ·refine .inr ⟨us,k,cap,bs,hη.trans h0,hc,?_,h2,h3.mono hR (fun k hk=>hb k (.inr (.inr (h4 ▸ hk)))) hf,hx.trans h4,h5⟩
   rw [hη]
   refine zhe h1 (fun k' m cap' hv=>hb k' (.inr (.inl ⟨m,cap',hv,?_⟩)))
   rw [h0] at hv;injection hv with _ _ hv;omega
theorem ObjR.map {η η':Hd} {J J':Nat→Prop} {w w':World} {f:BV→BV} {b:Nat} {o:Obj'} (h:ObjR η J w b o) (hη:η'.f b=η.f b) (hx:η'.x b=η.x b) (hb:∀ k,Own η b k→w'.heap[k]?=w.heap[k]?)
  (hf:∀ x v,BVr η J w x v→BVr η' J' w' (f x) v) (hR:∀ p v,Rd w J p v→Rd w' J' p v):ObjR η' J' w' b (o.map f):=h.map2 hη hx hb hf hR
theorem Glob.mono {G:Nat→Option (List PV)} {J J':Nat→Prop} {w w':World} (h:Glob G J w) (hJ:∀ b,J b→J' b) (hw:∀ b,J b→w'.heap[b]?=w.heap[b]?):Glob G J' w':=by
 intro g cs hg
 obtain ⟨hj,us,T,fz,hl,hc⟩:=h g cs hg
 exact ⟨hJ _ hj,us,T,fz,hl.mono (fun _ _ h=>Rd.mono hJ hw h),(hw g hj).trans hc⟩
structure Sx where
 n:Nat
 m:Nat
 env:List (Nat × List XV)
 st:z0q
def lk:List (Nat × List XV)→Nat→Option (List XV)
 | [],_=>none
 | (u,x)::r,t=>if u=t then some x else lk r t
def z5b (f:BV→BV) (env:List (Nat × List XV)):List (Nat × List XV):=env.map fun (t,xs)=>(t,xs.map (XV.map f))
theorem zn7 (f:BV→BV):∀ (env:List (Nat × List XV)) (t:Nat),lk (z5b f env) t=(lk env t).map (List.map (XV.map f))
 | [],_=>rfl
 | (u,x)::r,t=>by
  show lk ((u,x.map (XV.map f))::z5b f r) t=_
  simp only [lk]
  split
  ·rfl
  ·exact zn7 f r t
structure En where
 η:Hd
 J:Nat→Prop
 w:World
 st:z0q
structure Rel (G:Nat→Option (List PV)) (E:En) (η:Hd) (J:Nat→Prop) (s:Sx) (a:Act) (w:World):Prop where
 size:a.tmps.size=s.n
 m:E.st.length=s.m
 defers:a.defers=[]
 env:∀ t xs,lk s.env t=some xs→Rs η J w xs (a.tmps.getD t undef)
 ok:Ok G η J w s.st
 ex:Ex E.η E.J E.w E.st η J w s.st
def zpd (P:Program) (G:Nat→Option (List PV)) (f:FuncId) (args:List XV) (st:z0q) (Q:List XV→z0q→Prop):Prop :=
 ∀ η J w (vs:List Value),Ok G η J w st→L2 (XVr η J w) args vs →
  Calls P f vs.toArray w fun e w'=>∃ v η' J' r st',e=.returned v∧Q r st'∧Rs η' J' w' r v∧Ok G η' J' w' st'∧Ex η J w st η' J' w' st'
def z9w (P:Program) (G:Nat→Option (List PV)) (c:Code) (s:Sx) (Q:Exit→Sx→Prop):Prop :=
 ∀ E η J a w,Rel G E η J s a w→c.wp P (fun e a' w'=>∃ η' J' s',Q e s'∧Rel G E η' J' s' a' w') a w
def OpT (P:Program) (G:Nat→Option (List PV)) (o:Oper) (s:Sx) (K:Sx→Prop):Prop :=
 ∀ E η J a w,Rel G E η J s a w→∀ (K':Act→World→Prop) (Q':Exit→Act→World→Prop),(∀ a' w' η' J' s',K s'→Rel G E η' J' s' a' w'→K' a' w')→o.wp P a w K' Q'
def OpsT (P:Program) (G:Nat→Option (List PV)) (ops:Array Oper) (l:List Oper) (s:Sx) (K:Sx→Prop):Prop :=
 ∀ E η J a w,Rel G E η J s a w→∀ (Q':Exit→Act→World→Prop),(∀ a' w' η' J' s',K s'→Rel G E η' J' s' a' w'→Q' .normal a' w')→wpList P ops Q' l a w
theorem zpd.mono {P:Program} {G:Nat→Option (List PV)} {f:FuncId} {args:List XV} {st:z0q} {Q Q':List XV→z0q→Prop} (h:zpd P G f args st Q) (hq:∀ r st',Q r st'→Q' r st'):zpd P G f args st Q' :=
 fun η J w vs ho ha=>(h η J w vs ho ha).mono fun e w' ⟨v,η',J',r,st',he,hQ,rest⟩=>⟨v,η',J',r,st',he,hq _ _ hQ,rest⟩
theorem z9w.mono {P:Program} {G:Nat→Option (List PV)} {c:Code} {s:Sx} {Q Q':Exit→Sx→Prop} (h:z9w P G c s Q) (hq:∀ e s',Q e s'→Q' e s'):z9w P G c s Q' :=
 fun E η J a w hr=>wp_mono (h E η J a w hr) fun e a' w' ⟨η',J',s',hQ,r⟩=>⟨η',J',s',hq _ _ hQ,r⟩
end Go.Proofs.YtimbigpplbbjaaaGreatDoor.Abs

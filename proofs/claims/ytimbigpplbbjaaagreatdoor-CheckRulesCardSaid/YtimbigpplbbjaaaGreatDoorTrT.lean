/- Trees: rows of one's own whose elements have slices of their own. What is looked at. -/
import Derived.Test.YtimbigpplbbjaaaGreatDoorAbsZ
namespace Go.Proofs.YtimbigpplbbjaaaGreatDoor.Abs
open Go Go.RowKit
set_option linter.unusedVariables false
set_option linter.unusedSimpArgs false
section
variable {P:Program} {G:Nat→Option (List PV)} {o:Oper} {s:Sx}
def isOs:PV→Bool
 | .os _ _ _ _=>true
 | _=>false
def ldB (p:PV):BV:=if isOs p then .any else .pv p
theorem Tr.rd {w:World} {J:Nat→Prop} {p:PV} {v:Value} {bs:List Nat} (h:Tr w J p v bs) (hp:isOs p=false):Rd w J p v∧bs=[]:=by
 cases h <;> first|exact ⟨by assumption,rfl⟩|cases hp
theorem z03t {η:Hd} {w:World} {J:Nat→Prop} {p:PV} {v:Value} {bs:List Nat} (h:Tr w J p v bs):BVr η J w (ldB p) v:=by
 unfold ldB
 split
 ·exact h.one
 ·rename_i e;exact (h.rd (by simpa using e)).1
theorem Rel.tree {E:En} {η:Hd} {J:Nat→Prop} {a:Act} {w:World} (h:Rel G E η J s a w) {b sz:Nat} {m ch:Bool} {hh:Option (Nat × Nat × BV)} {T:TypeId} {xs:List (List PV)} (hb:s.st[b]?=some (some (.tree m ch hh T sz xs))) :
  (xs=[]∧∃ A,η.f b=.slice A 0 0)∨∃ us k cap bs,η.f b=.slice (some ⟨k,0,none⟩) xs.length cap∧TrH η J w hh sz xs.flatten us bs∧(∀ x∈xs,x.length=sz)∧∀ (j:Nat) (u:Value),us[j]?=some u→w.cell? ⟨k,j,none⟩=some u:=by
 rcases h.ok.obj b _ hb with ⟨h0,_,_,h1⟩|⟨us,k,cap,bs,h0,hc,h1,h2,h3,_⟩
 ·exact .inl ⟨h0,h1⟩
 ·refine .inr ⟨us,k,cap,bs,h0,h3,h2,fun j u hu=>?_⟩
  have:=h1.cells (g:=k) (by rw [h0];rfl) j u hu
  rwa [Addr.add_lit,Nat.zero_add] at this
theorem zw9 {T e T0:TypeId} {x ix:Operand} {k:IntKind} {n:Int} {b sz:Nat} {agg m ch:Bool} {hh:Option (Nat × Nat × BV)} {xs:List (List PV)} (ho:o.op=.indexAddr T x ix) (hu:P.underlying T=some (.slice e)) (hT:Ty P e agg sz)
  (hx:val G s.env x=some (.c (.row b))) (hb:s.st[b]?=some (some (.tree m ch hh T0 sz xs))) (hi:val G s.env ix=some (.c (.pv (.int k n)))) (h0:0≤n) (h1:n<xs.length):LtT P G o s [.c (.rp b sz n.toNat 0)]:=by
 intro E η J a w h
 have h2:=z5i (h.val hi)
 obtain ⟨hn0,hv,_⟩:=h.val hx
 rcases h.tree hb with ⟨q0,_⟩|⟨us,g,c,bs,q5,_⟩
 ·rw [q0] at h1;simp at h1;omega
 ·refine ⟨.pointer (some ⟨g,n.toNat*sz,none⟩),?_,hn0,g,_,_,q5,rfl⟩
  simp [execOp,ho,h2,hv,q5,Instr.indexAt,run_underlying hu,asIntOf,h0,h1,z5c hT,Addr.add_lit]
theorem zsr {T e T0:TypeId} {x:Operand} {b sz:Nat} {m ch:Bool} {hh:Option (Nat × Nat × BV)} {xs:List (List PV)} (ho:o.op=.call { callee:=.builtin .len,args:=#[x],argTypes:=#[T] }) (hu:P.underlying T=some (.slice e))
  (hx:val G s.env x=some (.c (.row b))) (hb:s.st[b]?=some (some (.tree m ch hh T0 sz xs))):LtT P G o s [.c (.pv (.int .i64 xs.length))]:=by
 intro E η J a w h
 obtain ⟨_,h1,_⟩:=h.val hx
 have h2:∃ A c,a.eval x=.slice A xs.length c:=by
  rcases h.tree hb with ⟨q0,A,q5⟩|⟨us,g,c,bs,q5,_⟩
  ·exact ⟨A,0,by rw [h1,q5,q0];rfl⟩
  ·exact ⟨_,c,by rw [h1,q5]⟩
 obtain ⟨A,c,h2⟩:=h2
 have:=zli (P:=P) (T:=T) (ty:=o.type) (n:=xs.length) hu w (.inr ⟨e,A,c,rfl,rfl⟩)
 exact ⟨_,by simp [execOp,ho,resolve,invoke,builtin,h2,this],.int _ _⟩
theorem TrH.get {η:Hd} {J:Nat→Prop} {w:World} {h:Option (Nat × Nat × BV)} {sz i:Nat} {ps:List PV} {us:List Value} {bs:List (List Nat)} {p:PV} (t:TrH η J w h sz ps us bs) (hp:ps[i]?=some p):∃ u b,us[i]?=some u∧bs[i]?=some b∧CelR η J w (z9j h sz i) p u b:=by
 have hi:=(List.getElem?_eq_some_iff.1 hp).1
 have h1:us[i]?=some (us[i]'(by rw [← t.l1];exact hi)):=List.getElem?_eq_getElem _
 have h2:bs[i]?=some (bs[i]'(by rw [← t.l2,← t.l1];exact hi)):=List.getElem?_eq_getElem _
 exact ⟨_,_,h1,h2,t.at_ i p _ _ hp h1 h2⟩
theorem zwa {T T0:TypeId} {x:Operand} {b i off sz sz':Nat} {m ch:Bool} {hh:Option (Nat × Nat × BV)} {xs:List (List PV)} {e:List PV} {p:PV} (ho:o.op=.load T x) (hT:Ty P T false sz') (hx:val G s.env x=some (.c (.rp b sz i off)))
  (hb:s.st[b]?=some (some (.tree m ch hh T0 sz xs))) (he:xs[i]?=some e) (hp:e[off]?=some p) (hn:z9j hh sz (i*sz+off)=none):LtT P G o s [.c (ldB p)]:=by
 intro E η J a w h
 obtain ⟨_,k,n,cap,h5,h6⟩:=h.val hx
 rcases h.tree hb with ⟨h0,_⟩|⟨us,k',cap',bs,h1,h2,h3,h4⟩
 ·rw [h0] at he;cases he
 rw [h1] at h5;injection h5 with h5;injection h5 with h5;injection h5 with h5;subst h5
 obtain ⟨u,b',h7,_,h8⟩:=h2.get (z70 h3 he hp)
 rw [hn] at h8
 exact ⟨u,by simp [execOp,ho,h6,Instr.loadAt,Instr.sureAddr,zg5 hT (h4 _ u h7)],z03t h8⟩
theorem zwb {T T0:TypeId} {x:Operand} {b i off sz sz':Nat} {m ch:Bool} {y:BV} {xs:List (List PV)} {e:List PV} {p:PV} (ho:o.op=.load T x) (hT:Ty P T false sz') (hx:val G s.env x=some (.c (.rp b sz i off)))
  (hb:s.st[b]?=some (some (.tree m ch (some (i,off,y)) T0 sz xs))) (he:xs[i]?=some e) (hp:e[off]?=some p):LtT P G o s [.c y]:=by
 intro E η J a w h
 obtain ⟨_,k,n,cap,h5,h6⟩:=h.val hx
 rcases h.tree hb with ⟨h0,_⟩|⟨us,k',cap',bs,h1,h2,h3,h4⟩
 ·rw [h0] at he;cases he
 rw [h1] at h5;injection h5 with h5;injection h5 with h5;injection h5 with h5;subst h5
 obtain ⟨u,b',h7,_,h8⟩:=h2.get (z70 h3 he hp)
 simp only [z9j,if_true] at h8
 exact ⟨u,by simp [execOp,ho,h6,Instr.loadAt,Instr.sureAddr,zg5 hT (h4 _ u h7)],h8.2⟩
theorem zso {T T0:TypeId} {x:Operand} {b i off sz sz':Nat} {m ch:Bool} {hh:Option (Nat × Nat × BV)} {xs:List (List PV)} {e:List PV} {ys:List BV} (ho:o.op=.load T x) (hT:Ty P T true sz') (hx:val G s.env x=some (.c (.rp b sz i off)))
  (hb:s.st[b]?=some (some (.tree m ch hh T0 sz xs))) (he:xs[i]?=some e) (hl:off+sz'≤e.length) (hn:∀ j,j<sz'→z9j hh sz (i*sz+(off+j))=none) (hy:((e.drop off).take sz').map ldB=ys):LtT P G o s [.agg ys]:=by
 intro E η J a w h
 obtain ⟨_,k,n,cap,h5,h6⟩:=h.val hx
 rcases h.tree hb with ⟨h0,_⟩|⟨us,k',cap',bs,h1,h2,h3,h4⟩
 ·rw [h0] at he;cases he
 rw [h1] at h5;injection h5 with h5;injection h5 with h5;injection h5 with h5;subst h5
 subst hy
 have key:∀ (j:Nat) (p:PV),((e.drop off).take sz')[j]?=some p→∃ u,((us.drop (i*sz+off)).take sz')[j]?=some u∧BVr η J w (ldB p) u:=by
  intro j p hp
  rw [List.getElem?_take] at hp
  split at hp
  ·rename_i hj
   rw [List.getElem?_drop] at hp
   obtain ⟨u,b',h7,_,h8⟩:=h2.get (z70 h3 he hp)
   rw [hn j hj] at h8
   refine ⟨u,?_,z03t h8⟩
   rw [List.getElem?_take,if_pos hj,List.getElem?_drop,Nat.add_assoc]
   exact h7
  ·cases hp
 have hul:((us.drop (i*sz+off)).take sz').length=sz':=by
  rcases Nat.eq_zero_or_pos sz' with hz|hz
  ·subst hz;simp
  ·have hj:off+(sz' - 1)<e.length:=by omega
   have hp:((e.drop off).take sz')[sz' - 1]?=some e[off+(sz' - 1)]:=by
    rw [List.getElem?_take,if_pos (by omega),List.getElem?_drop];exact List.getElem?_eq_getElem hj
   obtain ⟨u,hu,_⟩:=key _ _ hp
   have:=(List.getElem?_eq_some_iff.1 hu).1
   simp only [List.length_take] at this ⊢
   omega
 have hr:=zhg hT (w:=w) (k:=k') (off:=i*sz+off) ((us.drop (i*sz+off)).take sz') hul (fun j u hu=>by
  refine h4 _ u ?_
  rw [List.getElem?_take] at hu
  split at hu
  ·rwa [List.getElem?_drop] at hu
  ·cases hu)
 refine ⟨.agg ((us.drop (i*sz+off)).take sz').toArray,by simp [execOp,ho,h6,Instr.loadAt,Instr.sureAddr,hr],⟨_,rfl,?_⟩⟩
 refine ⟨by simp only [List.length_map,hul,List.length_take,List.length_drop];omega,fun j x y hx hy=>?_⟩
 rw [List.getElem?_map] at hx
 cases hi:((e.drop off).take sz')[j]? with
 | none=>rw [hi] at hx;cases hx
 | some z =>
  rw [hi] at hx;injection hx with hx;subst hx
  obtain ⟨u,h7,h8⟩:=key j z hi
  rw [hy] at h7;injection h7 with h7;subst h7;exact h8
theorem z01b {h:Option (Nat × Nat × BV)} {sz i off:Nat} (hq:∀ r q y,h=some (r,q,y)→q≠off∧q<sz) (ho:off<sz):z9j h sz (i*sz+off)=none:=by
 unfold z9j
 split
 ·rename_i r q y
  obtain ⟨h1,h2⟩:=hq r q y rfl
  rw [if_neg]
  intro e
  have e1:(i*sz+off) % sz=off:=by rw [Nat.mul_comm,Nat.mul_add_mod,Nat.mod_eq_of_lt ho]
  have e2:(r*sz+q) % sz=q:=by rw [Nat.mul_comm,Nat.mul_add_mod,Nat.mod_eq_of_lt h2]
  rw [e,e2] at e1
  exact h1 e1
 ·rfl
end
section
variable {P:Program} {G:Nat→Option (List PV)}
theorem Rel.re {E:En} {η η':Hd} {J:Nat→Prop} {s:Sx} {a:Act} {w:World} {env':List (Nat × List XV)} {st':z0q} (hr:Rel G E η J s a w) (henv:∀ t xs,lk env' t=some xs→Rs η' J w xs (a.tmps.getD t undef)) (hlen:∀ b,η'.d b→b<st'.length)
  (hobj:∀ (b:Nat) (o:Obj'),st'[b]?=some (some o)→ObjR η' J w b o) (hdis:∀ (b c:Nat) (o o':Obj') (k:Nat),st'[b]?=some (some o)→st'[c]?=some (some o')→Own η' b k→Own η' c k→b=c)
  (hown:∀ (b:Nat) (o':Obj') (k:Nat),st'[b]?=some (some o')→Own η' b k→∃ (c:Nat) (o:Obj'),s.st[c]?=some (some o)∧Own η c k∧(o'.mut=true→o.mut=true)) (hl:s.st.length≤st'.length)
  (hhdr:∀ (b:Nat) (o':Obj'),b<s.st.length→st'[b]?=some (some o')→o'.same=true→∃ o,s.st[b]?=some (some o)∧o.same=true∧η'.f b=η.f b):Rel G E η' J ⟨s.n,s.m,env',st'⟩ a w where
 size:=hr.size
 m:=hr.m
 defers:=hr.defers
 env:=henv
 ok:=⟨hlen,hr.ok.jlt,hobj,hdis,fun b o' k hb hk hj=>by
  obtain ⟨c,o,h1,h2,_⟩:=hown b o' k hb hk
  exact hr.ok.jd c o k h1 h2 hj,hr.ok.glob⟩
 ex:=by
  refine hr.ex.trans ⟨fun _ h=>h,rfl,rfl,rfl,Nat.le_refl _,fun _ _ _=>rfl,fun _ h=>.inl h,hl,fun b o' k hb hk=>?_,fun b o' hlt hb hs=>hhdr b o' hlt hb hs⟩
  obtain ⟨c,o,h1,h2,h3⟩:=hown b o' k hb hk
  exact .inr ⟨c,o,h1,h2,h3⟩
theorem TrH.of_l2 {η:Hd} {J:Nat→Prop} {w:World} {sz:Nat} {ps:List PV} {us:List Value} (h:L2 (Rd w J) ps us):TrH η J w none sz ps us (List.replicate us.length []):=by
 refine ⟨h.len,by simp,fun i p u b h1 h2 h3=>?_⟩
 have:b=[]:=by
  have:=List.mem_of_getElem? h3
  exact (List.mem_replicate.1 this).2
 subst this
 exact .pl p u (h.at_ i p u h1 h2)
theorem zft (n:Nat):(List.replicate n ([]:List Nat)).flatten=[]:=by
 induction n with
 | zero=>rfl
 | succ n ih=>rw [List.replicate_succ,List.flatten_cons,ih];rfl
theorem zu2 {bs:List (List Nat)} (h:bs.flatten=[]) {i:Nat} {b:List Nat} (hi:bs[i]?=some b):b=[]:=by
 cases b with
 | nil=>rfl
 | cons x b=>have:=zgm hi List.mem_cons_self (k:=x);rw [h] at this;cases this
theorem z02n {η:Hd} {J:Nat→Prop} {w:World} {b E sz:Nat} {m ch:Bool} {xs:List (List PV)} (h:ObjR η J w b (.row m ch E sz xs)):ObjR η J w b (.tree m ch none E sz xs):=by
 obtain ⟨hx,⟨h0,A,h1⟩|⟨us,k,cap,h0,hc,h1,h2,h3⟩⟩:=h
 ·exact .inl ⟨h0,rfl,hx,A,h1⟩
 ·refine .inr ⟨us,k,cap,_,h0,hc,h1,h3,TrH.of_l2 h2,by rw [hx,zft],by rw [zft];simp⟩
theorem z00i {η:Hd} {J:Nat→Prop} {w:World} {b E sz:Nat} {m ch:Bool} {xs:List (List PV)} (h:ObjR η J w b (.row m ch E sz xs)):∃ bl,Tr w J (.os true E sz xs) (η.f b) bl∧bl.Nodup∧∀ k,k∈bl↔Own η b k:=by
 obtain ⟨hx,⟨h0,A,h1⟩|⟨us,k,cap,h0,hc,h1,h2,h3⟩⟩:=h
 ·subst h0
  exact ⟨[],by rw [h1];exact .nil true E sz A,List.nodup_nil,fun k=>⟨fun h=>(by cases h),fun h=>(zgn h1 hx h).elim⟩⟩
 ·refine ⟨[k],?_,by simp,fun k'=>⟨fun h=>?_,fun h=>?_⟩⟩
  ·rw [h0] at h1 ⊢
   have:=Tr.os (w:=w) (J:=J) true E sz k cap xs us (List.replicate us.length []) hc h1 h3 h2.len (by simp) (fun i p u b e1 e2 e3=>by
    have e:b=[]:=zu2 (zft _) e3
    subst e
    exact .pl p u (h2.at_ i p u e1 e2)) (fun _=>⟨h2,zft _⟩)
   rwa [zft] at this
  ·rw [List.mem_singleton.1 h];exact .inr (.inl ⟨_,_,h0,hc⟩)
  ·have:=zfv h0 h;rwa [hx] at this
theorem zxc {η:Hd} {J:Nat→Prop} {w:World} {b E sz:Nat} {m ch:Bool} {xs:List (List PV)} (h:ObjR η J w b (.tree m ch none E sz xs)):∃ bl,Tr w J (.os false E sz xs) (η.f b) bl∧bl.Nodup∧∀ k,k∈bl↔Own η b k:=by
 rcases h with ⟨h0,_,hx,A,h1⟩|⟨us,k,cap,bs,h0,hc,h1,h2,h3,h4,h5⟩
 ·subst h0
  exact ⟨[],by rw [h1];exact .nil false E sz A,List.nodup_nil,fun k=>⟨fun h=>(by cases h),fun h=>(zgn h1 hx h).elim⟩⟩
 ·refine ⟨k::bs.flatten,?_,h5,fun k'=>⟨fun h=>?_,fun h=>?_⟩⟩
  ·rw [h0] at h1 ⊢
   exact Tr.os (w:=w) (J:=J) false E sz k cap xs us bs hc h1 h2 h3.l1 h3.l2 (fun i p u b e1 e2 e3=>h3.at_ i p u b e1 e2 e3) (fun e=>by cases e)
  ·rcases List.mem_cons.1 h with rfl|h
   ·exact .inr (.inl ⟨_,_,h0,hc⟩)
   ·exact .inr (.inr (h4 ▸ h))
  ·have:=zfv h0 h;rwa [h4] at this
def z06d (t:Bool) (E sz:Nat) (xs:List (List PV)):Obj':=if t then .row true false E sz xs else .tree true false none E sz xs
theorem z00j {η:Hd} {J:Nat→Prop} {w:World} {b E sz:Nat} {t:Bool} {xs:List (List PV)} {v:Value} {bl:List Nat} (h:Tr w J (.os t E sz xs) v bl) (hn:bl.Nodup) (hf:η.f b=v) (hx:η.x b=bl.tail):ObjR η J w b (z06d t E sz xs)∧∀ k,Own η b k↔k∈bl:=by
 cases h with
 | pl _ _ h=>cases h
 | nil t E sz A =>
  have hx:η.x b=[]:=hx
  refine ⟨?_,fun k=>⟨fun h=>(zgn hf hx h).elim,fun h=>by cases h⟩⟩
  cases t
  ·exact .inl ⟨rfl,rfl,hx,A,hf⟩
  ·exact ⟨hx,.inl ⟨rfl,A,hf⟩⟩
 | os t E sz k cap xs us bs hc ho hz hl hb h ht =>
  have hx:η.x b=bs.flatten:=hx
  refine ⟨?_,fun k'=>⟨fun h=>?_,fun h=>?_⟩⟩
  ·cases t
   ·exact .inr ⟨us,k,cap,bs,hf,hc,by rw [hf];exact ho,hz,⟨hl,hb,h⟩,hx,hn⟩
   ·obtain ⟨h1,h2⟩:=ht rfl
    exact ⟨hx.trans h2,.inr ⟨us,k,cap,hf,hc,by rw [hf];exact ho,h1,hz⟩⟩
  ·have:=zfv hf h;rwa [hx] at this
  ·rcases List.mem_cons.1 h with rfl|h
   ·exact .inr (.inl ⟨_,_,hf,hc⟩)
   ·exact .inr (.inr (hx ▸ h))
theorem zs3 {bs:List (List Nat)} {i:Nat} {b:List Nat} (h:bs[i]?=some b) (hn:bs.flatten.Nodup):(bs.set i []).flatten.Nodup∧(∀ k,k∈(bs.set i []).flatten→k∈bs.flatten∧k ∉ b)∧b.Nodup∧∀ k∈b,k∈bs.flatten:=by
 induction bs generalizing i with
 | nil=>cases h
 | cons x bs ih =>
  rw [List.flatten_cons,List.nodup_append] at hn
  obtain ⟨n1,n2,n3⟩:=hn
  cases i with
  | zero =>
   simp only [List.getElem?_cons_zero,Option.some.injEq] at h
   subst h
   simp only [List.set_cons_zero,List.flatten_cons,List.nil_append]
   exact ⟨n2,fun k hk=>⟨List.mem_append.2 (.inr hk),fun hk'=>n3 k hk' k hk rfl⟩,n1,fun k hk=>List.mem_append.2 (.inl hk)⟩
  | succ i =>
   have h':bs[i]?=some b:=by simpa using h
   obtain ⟨a1,a2,a3,a4⟩:=ih h' n2
   simp only [List.set_cons_succ,List.flatten_cons]
   refine ⟨List.nodup_append.2 ⟨n1,a1,fun x hx y hy e=>n3 x hx y (a2 y hy).1 e⟩,fun k hk=>?_,a3,fun k hk=>List.mem_append.2 (.inr (a4 k hk))⟩
   rcases List.mem_append.1 hk with hk|hk
   ·exact ⟨List.mem_append.2 (.inl hk),fun hk'=>n3 k hk k (a4 k hk') rfl⟩
   ·exact ⟨List.mem_append.2 (.inr (a2 k hk).1),(a2 k hk).2⟩
theorem zif {bs:List (List Nat)} {i:Nat} {b:List Nat} {k:Nat} (h:k∈(bs.set i b).flatten):k∈bs.flatten∨k∈b:=by
 obtain ⟨l,h1,h2⟩:=List.mem_flatten.1 h
 rcases List.mem_or_eq_of_mem_set h1 with h1|h1
 ·exact .inl (List.mem_flatten.2 ⟨l,h1,h2⟩)
 ·exact .inr (h1 ▸ h2)
theorem zor {bs:List (List Nat)} {i:Nat} {b:List Nat} (hn:bs.flatten.Nodup) (hb:b.Nodup) (hd:∀ k∈b,k ∉ bs.flatten):(bs.set i b).flatten.Nodup:=by
 induction bs generalizing i with
 | nil=>simp
 | cons x bs ih =>
  rw [List.flatten_cons,List.nodup_append] at hn
  obtain ⟨n1,n2,n3⟩:=hn
  cases i with
  | zero =>
   simp only [List.set_cons_zero,List.flatten_cons]
   exact List.nodup_append.2 ⟨hb,n2,fun k hk y hy e=>hd k hk (List.mem_append.2 (.inr (e ▸ hy)))⟩
  | succ i =>
   simp only [List.set_cons_succ,List.flatten_cons]
   refine List.nodup_append.2 ⟨n1,ih n2 (fun k hk h=>hd k hk (List.mem_append.2 (.inr h))),fun k hk y hy e=>?_⟩
   rcases zif hy with hy|hy
   ·exact n3 k hk y hy e
   ·exact hd y hy (List.mem_append.2 (.inl (e ▸ hk)))
end
mutual
def unO:PV→PV
 | .os _ _ _ xs=>.sl (unLL xs)
 | .bool b=>.bool b
 | .int k n=>.int k n
 | .str s=>.str s
 | .sl xs=>.sl xs
 | .cst v=>.cst v
def unLL:List (List PV)→List (List PV)
 | []=>[]
 | x::l=>unL x::unLL l
def unL:List PV→List PV
 | []=>[]
 | p::l=>unO p::unL l
end
theorem zo8:∀ l:List PV,unL l=l.map unO
 | []=>by simp [unL]
 | p::l=>by simp [unL,zo8 l]
theorem zfu:∀ l:List (List PV),unLL l=l.map unL
 | []=>by simp [unLL]
 | p::l=>by simp [unLL,zfu l]
theorem z098 {w:World} {J:Nat→Prop} {p:PV} {v:Value} (h:Rd w J p v):unO p=p:=by cases h <;> simp [unO]
section
variable {P:Program} {G:Nat→Option (List PV)}
theorem Tr.un {w:World} {J:Nat→Prop} {p:PV} {v:Value} {bs:List Nat} (h:Tr w J p v bs):Rd w (fun k=>J k∨k∈bs) (unO p) v:=by
 induction h with
 | pl p v h=>rw [z098 h];exact h.mono (fun _ h=>.inl h) (fun _ _=>rfl)
 | nil t E sz A=>simp only [unO,unLL];exact .nil A 0
 | os t E sz k cap xs us bs hc ho hz hl hb h ht ih =>
  simp only [unO]
  have hlen:(unLL xs).length=xs.length:=by rw [zfu];simp
  by_cases h0:xs=[]
  ·subst h0;simp only [unLL,List.length_nil];exact .nil _ cap
  have hcap:xs.length≤cap:=by
   rcases ho.2 with ⟨q,_⟩|⟨g,c',cur,q,_,_,hcc,_⟩
   ·cases q
   ·injection q with _ _ q;subst q;exact hcc
  have cell:∀ (i:Nat) (x:List PV) (j:Nat) (p:PV),(unLL xs)[i]?=some x→x[j]?=some p→∃ u,us[i*sz+j]?=some u∧w.cell? ⟨k,0+(i*sz+j),none⟩=some u∧Rd w (fun b=>J b∨b∈k::bs.flatten) p u:=by
   intro i x j p hx hp
   rw [zfu,List.getElem?_map,Option.map_eq_some_iff] at hx
   obtain ⟨x0,hx0,rfl⟩:=hx
   rw [zo8,List.getElem?_map,Option.map_eq_some_iff] at hp
   obtain ⟨p0,hp0,rfl⟩:=hp
   have hf:=z70 hz hx0 hp0
   have hi:=(List.getElem?_eq_some_iff.1 hf).1
   have h1:us[i*sz+j]?=some (us[i*sz+j]'(by omega)):=List.getElem?_eq_getElem _
   have h2:bs[i*sz+j]?=some (bs[i*sz+j]'(by omega)):=List.getElem?_eq_getElem _
   have:=ho.cells (g:=k) rfl (i*sz+j) _ h1
   rw [Addr.add_lit] at this
   exact ⟨_,h1,this,(ih _ _ _ _ hf h1 h2).mono (fun b hb=>hb.imp id (fun hb=>List.mem_cons_of_mem _ (zgm h2 hb))) (fun _ _=>rfl)⟩
  have:=Rd.sl (w:=w) (J:=fun b=>J b∨b∈k::bs.flatten) (unLL xs) sz k 0 cap (fun i j=>us.getD (i*sz+j) undef) (fun e=>h0 (by rw [e] at hlen;exact List.eq_nil_of_length_eq_zero hlen.symm)) (.inr List.mem_cons_self) (by omega) (fun i x hx=>by
   rw [zfu,List.getElem?_map,Option.map_eq_some_iff] at hx
   obtain ⟨x0,hx0,rfl⟩:=hx
   rw [zo8,List.length_map]
   exact hz x0 (List.mem_of_getElem? hx0)) (fun i x j p hx hp=>by
   obtain ⟨u,h1,h2,h3⟩:=cell i x j p hx hp
   rw [List.getD_eq_getElem?_getD,h1];exact h2) (fun i x j p hx hp=>by
   obtain ⟨u,h1,h2,h3⟩:=cell i x j p hx hp
   rw [List.getD_eq_getElem?_getD,h1];exact h3)
  rwa [hlen] at this
theorem z06e {s:Sx} {b E sz:Nat} {ch:Bool} {xs:List (List PV)} (hb:s.st[b]?=some (some (.tree true ch none E sz xs))):Weak G s ⟨s.n,s.m,s.env,s.st.set b (some (.row true ch E sz (unLL xs)))⟩:=by
 intro E0 η J a w hr
 have hbe:=hr.ok.obj b _ hb
 let J':Nat→Prop:=fun k=>J k∨k∈η.x b
 let η':Hd:=⟨η.f,η.d,fun c=>if c=b then [] else η.x c⟩
 have hx':η'.x b=[]:=if_pos rfl
 have hf:∀ x v,BVr η J w x v→BVr η' J' w (id x) v:=fun x v h=>BVr.mono (η:=η) (η':=η') (fun _ h=>.inl h) (fun _ _=>rfl) (fun _ h _=>⟨h,rfl⟩) h
 have r:=hr.turn (b:=b) (o:=.tree true ch none E sz xs) (f:=id) (η':=η') (J':=J') (w':=w) (new:=some (.row true ch E sz (unLL xs)))
  ⟨hb,rfl,fun _ h=>h,fun _ _=>rfl,fun c hc=>if_neg hc,fun _ h=>.inl h,rfl,rfl,rfl,Nat.le_refl _,fun _ _ _=>rfl,hf,fun o' ho'=>by
   injection ho' with ho';subst ho'
   refine ⟨⟨hx',?_⟩,rfl,fun h=>⟨h,rfl⟩⟩
   rcases hbe with ⟨h0,_,_,A,h1⟩|⟨us,k,cap,bs,h0,hc,h1,h2,h3,h4,h5⟩
   ·subst h0;exact .inl ⟨by simp [unLL],A,h1⟩
   ·have hlen:(unLL xs).length=xs.length:=by rw [zfu];simp
    refine .inr ⟨us,k,cap,by rw [hlen];exact h0,hc,by rw [hlen];exact h1,?_,fun x hx=>?_⟩
    ·have hfl:(unLL xs).flatten=xs.flatten.map unO:=by
      rw [zfu,List.map_flatten]
      congr 1
      apply List.map_congr_left
      intro x _
      exact zo8 x
     rw [hfl]
     refine ⟨by rw [List.length_map];exact h3.l1,fun i p u hp hu=>?_⟩
     rw [List.getElem?_map,Option.map_eq_some_iff] at hp
     obtain ⟨p0,hp0,rfl⟩:=hp
     obtain ⟨u',b',e1,e2,e3⟩:=h3.get hp0
     rw [hu] at e1;injection e1 with e1;subst e1
     exact (Tr.un e3).mono (fun k hk=>hk.imp id (fun hk=>h4 ▸ zgm e2 hk)) (fun _ _=>rfl)
    ·rw [zfu] at hx
     obtain ⟨x0,hx0,rfl⟩:=List.mem_map.1 hx
     rw [zo8,List.length_map];exact h2 x0 hx0,
  fun o' k ho' hk=>by
   injection ho' with ho';subst ho'
   rcases hbe with ⟨h0,_,_,A,h1⟩|⟨us,k0,cap,bs,h0,hc,h1,h2,h3,h4,h5⟩
   ·exact (zgn (η:=η') h1 hx' hk).elim
   ·have:=zfv (η:=η') h0 hk
    rw [hx'] at this
    have e:=List.mem_singleton.1 this
    subst e
    refine ⟨.inr (.inr (.inl ⟨_,_,h0,hc⟩)),fun hj=>?_⟩
    rcases hj with hj|hj
    ·exact hr.ok.jd b _ _ hb (.inr (.inl ⟨_,_,h0,hc⟩)) hj
    ·rw [h4] at hj;exact (List.nodup_cons.1 h5).1 hj,
  fun k hk=>hk.imp id (fun h=>.inr (.inr h))⟩
 rw [z7x,zf7] at r
 exact ⟨η',J',r⟩
theorem z06f {s:Sx} {b E sz:Nat} {m ch:Bool} {xs:List (List PV)} (hb:s.st[b]?=some (some (.row m ch E sz xs))):Weak G s ⟨s.n,s.m,s.env,s.st.set b (some (.tree m ch none E sz xs))⟩:=by
 intro E0 η J a w hr
 have look:∀ (c:Nat) (o':Obj'),(s.st.set b (some (.tree m ch none E sz xs)))[c]?=some (some o')→∃ o,s.st[c]?=some (some o)∧o'.mut=o.mut∧(o'.same=true→o.same=true)∧(ObjR η J w c o→ObjR η J w c o'):=fun c o' hc=>by
  by_cases e:b=c
  ·subst e
   rw [List.getElem?_set] at hc
   simp only [if_true] at hc
   split at hc
   ·injection hc with hc;injection hc with hc;subst hc
    exact ⟨_,hb,rfl,fun h=>h,fun h=>z02n h⟩
   ·cases hc
  ·rw [List.getElem?_set_ne e] at hc
   exact ⟨o',hc,rfl,fun h=>h,fun h=>h⟩
 refine ⟨η,J,hr.re (η':=η) (fun t xs ht=>hr.env t xs ht) (fun c hc=>by simpa using hr.ok.len c hc) (fun c o' hc=>?_) (fun c d o1 o2 k hc hd h1 h2=>?_) (fun c o' k hc hk=>?_) (by simp) (fun c o' hl hc hs=>?_)⟩
 ·obtain ⟨o,h1,_,_,h2⟩:=look c o' hc
  exact h2 (hr.ok.obj c o h1)
 ·obtain ⟨o,h3,_⟩:=look c o1 hc
  obtain ⟨o',h4,_⟩:=look d o2 hd
  exact hr.ok.dis c d o o' k h3 h4 h1 h2
 ·obtain ⟨o,h1,h2,_⟩:=look c o' hc
  exact ⟨c,o,h1,hk,fun h=>h2 ▸ h⟩
 ·obtain ⟨o,h1,_,h2,_⟩:=look c o' hc
  exact ⟨o,h1,h2 hs,rfl⟩
theorem z0ac (o:Obj'):o.map id=o:=by cases o <;> simp [Obj'.map]
theorem zgl {st:z0q} {b c:Nat} {x y:Option Obj'} {o:Obj'} (hb:b<st.length) (h:(st.set b x++[y])[c]?=some (some o)):(c=st.length∧y=some o)∨(c≠st.length∧c=b∧x=some o)∨(c≠st.length∧c≠b∧st[c]?=some (some o)):=by
 rw [List.getElem?_append] at h
 split at h
 ·rename_i hl
  rw [List.length_set] at hl
  by_cases e:c=b
  ·subst e
   rw [List.getElem?_set] at h
   simp only [if_true,hb] at h
   injection h with h
   exact .inr (.inl ⟨by omega,rfl,h⟩)
  ·rw [List.getElem?_set_ne (Ne.symm e)] at h
   exact .inr (.inr ⟨by omega,e,h⟩)
 ·rename_i hl
  rw [List.length_set] at hl h
  rcases Nat.eq_zero_or_pos (c - st.length) with h0|h0
  ·rw [h0] at h
   simp at h
   exact .inl ⟨by omega,h⟩
  ·rw [List.getElem?_eq_none (by simp;omega)] at h;cases h
theorem z00k {s:Sx} {b E sz i q:Nat} {ch t:Bool} {xs:List (List PV)} {y:List PV} {E' sz':Nat} {ys:List (List PV)} (hb:s.st[b]?=some (some (.tree true ch none E sz xs))) (hy:xs[i]?=some y) (hq:y[q]?=some (.os t E' sz' ys)) :
  Weak G s ⟨s.n,s.m,s.env,s.st.set b (some (.tree true ch (some (i,q,.row s.st.length)) E sz xs))++[some (z06d t E' sz' ys)]⟩:=by
 intro E0 η J a w hr
 have hbl:b<s.st.length:=(List.getElem?_eq_some_iff.1 hb).1
 rcases hr.ok.obj b _ hb with ⟨h0,_⟩|⟨us,k0,cap,bs,h0,hc,h1,h2,h3,h4,h5⟩
 ·subst h0;cases hy
 have hfl:=z70 h2 hy hq
 obtain ⟨u,bl,e1,e2,e3⟩:=h3.get hfl
 have e3:Tr w J (.os t E' sz' ys) u bl:=e3
 have hn5:=List.nodup_cons.1 h5
 obtain ⟨f1,f2,f3,f4⟩:=zs3 e2 hn5.2
 let n:=s.st.length
 let η':Hd:=⟨fun c=>if c=n then u else η.f c,fun c=>η.d c∨c=n,fun c=>if c=n then bl.tail else if c=b then (bs.set (i*sz+q) []).flatten else η.x c⟩
 have hnb:b≠n:=Nat.ne_of_lt hbl
 have hfn:η'.f n=u:=if_pos rfl
 have hfc:∀ c,c≠n→η'.f c=η.f c:=fun c h=>if_neg h
 have hxn:η'.x n=bl.tail:=if_pos rfl
 have hxb:η'.x b=(bs.set (i*sz+q) []).flatten:=by show (if b=n then _ else _)=_;rw [if_neg hnb,if_pos rfl]
 have hxc:∀ c,c≠n→c≠b→η'.x c=η.x c:=fun c h h'=>by show (if c=n then _ else _)=_;rw [if_neg h,if_neg h']
 have hf:∀ x v,BVr η J w x v→BVr η' J w (id x) v:=fun x v h=>BVr.mono (η:=η) (η':=η') (fun _ h=>h) (fun _ _=>rfl) (fun c h _=>⟨.inl h,hfc c (fun e=>by have:=hr.ok.len c h;subst e;exact Nat.lt_irrefl _ this)⟩) h
 obtain ⟨on1,on2⟩:=z00j (η:=η') (b:=n) e3 f3 hfn hxn
 have ownb:∀ k,Own η' b k→Own η b k∧k ∉ bl:=fun k hk=>by
  have:=zfv (η:=η') (n:=xs.length) (cap:=cap) (by rw [hfc b hnb];exact h0) hk
  rw [hxb] at this
  rcases List.mem_cons.1 this with rfl|this
  ·exact ⟨.inr (.inl ⟨_,_,h0,hc⟩),fun h=>hn5.1 (f4 _ h)⟩
  ·exact ⟨.inr (.inr (by rw [h4];exact (f2 k this).1)),(f2 k this).2⟩
 have ownn:∀ k,Own η' n k→k∈bl∧Own η b k:=fun k hk=>⟨(on2 k).1 hk,.inr (.inr (by rw [h4];exact f4 k ((on2 k).1 hk)))⟩
 have ownc:∀ c k,c≠n→c≠b→Own η' c k→Own η c k:=fun c k h h' hk=>by unfold Own at hk ⊢;rwa [hfc c h,hxc c h h'] at hk
 refine ⟨η',J,hr.re (fun t xs ht=>?_) (fun c hc=>?_) (fun c o' hc'=>?_) (fun c d o1 o2 k hc' hd' hk1 hk2=>?_) (fun c o' k hc' hk=>?_) (by simp) (fun c o' hl hc' hs=>?_)⟩
 ·have:=Rs.map (f:=id) hf (hr.env t xs ht)
  rwa [show (XV.map id)=id from funext XV.map_id,List.map_id] at this
 ·rw [List.length_append,List.length_set]
  rcases hc with hc|rfl
  ·have:=hr.ok.len c hc;simp;omega
  ·simp [n]
 ·rcases zgl hbl hc' with ⟨rfl,h⟩|⟨hne,rfl,h⟩|⟨hne,hne',h⟩
  ·injection h with h;subst h;exact on1
  ·injection h with h;subst h
   refine .inr ⟨us,k0,cap,bs.set (i*sz+q) [],by rw [hfc _ hne];exact h0,hc,by rw [hfc _ hne];exact h1,h2,⟨h3.l1,by rw [List.length_set];exact h3.l2,fun j p u' b' g1 g2 g3=>?_⟩,hxb,List.nodup_cons.2 ⟨fun h=>hn5.1 (f2 _ h).1,f1⟩⟩
   simp only [z9j]
   by_cases e:j=i*sz+q
   ·subst e
    rw [if_pos rfl]
    rw [List.getElem?_set] at g3
    simp only [if_true] at g3
    split at g3
    ·injection g3 with g3
     rw [e1] at g2;injection g2 with g2;subst g2
     exact ⟨g3.symm,.inr rfl,hfn.symm,e3.one⟩
    ·cases g3
   ·rw [if_neg e]
    rw [List.getElem?_set_ne (Ne.symm e)] at g3
    exact h3.at_ j p u' b' g1 g2 g3
  ·have:=(hr.ok.obj c o' h).map2 (η':=η') (c:=c) (f:=id) (w':=w) (J':=J) (hfc c hne) (hxc c hne hne') (fun _ _=>rfl) hf (fun _ _ h=>h)
   rwa [z0ac] at this
 ·rcases zgl hbl hc' with ⟨rfl,h⟩|⟨hne,rfl,h⟩|⟨hne,hne',h⟩ <;> rcases zgl hbl hd' with ⟨rfl,h'⟩|⟨hme,e',h'⟩|⟨hme,hme',h'⟩
  ·rfl
  ·subst e';exact absurd (ownn k hk1).1 (ownb k hk2).2
  ·exact absurd (hr.ok.dis b d _ o2 k hb h' (ownn k hk1).2 (ownc d k hme hme' hk2)).symm hme'
  ·exact absurd (ownn k hk2).1 (ownb k hk1).2
  ·exact e'.symm
  ·exact hr.ok.dis c d _ o2 k hb h' (ownb k hk1).1 (ownc d k hme hme' hk2)
  ·exact absurd (hr.ok.dis c b o1 _ k h hb (ownc c k hne hne' hk1) (ownn k hk2).2) hne'
  ·subst e';exact hr.ok.dis c d o1 _ k h hb (ownc c k hne hne' hk1) (ownb k hk2).1
  ·exact hr.ok.dis c d o1 o2 k h h' (ownc c k hne hne' hk1) (ownc d k hme hme' hk2)
 ·rcases zgl hbl hc' with ⟨rfl,h⟩|⟨hne,rfl,h⟩|⟨hne,hne',h⟩
  ·exact ⟨b,_,hb,(ownn k hk).2,fun _=>rfl⟩
  ·exact ⟨c,_,hb,(ownb k hk).1,fun _=>rfl⟩
  ·exact ⟨c,o',h,ownc c k hne hne' hk,fun h=>h⟩
 ·rcases zgl hbl hc' with ⟨rfl,h⟩|⟨hne,rfl,h⟩|⟨hne,hne',h⟩
  ·exact absurd hl (Nat.lt_irrefl _)
  ·injection h with h;subst h;exact ⟨_,hb,hs,hfc _ hne⟩
  ·exact ⟨o',h,hs,hfc _ hne⟩
end
section
variable {P:Program} {G:Nat→Option (List PV)}
def zwj:Obj'→Option (Bool × Nat × Nat × List (List PV))
 | .row true _ E sz xs=>some (true,E,sz,xs)
 | .tree true _ none E sz xs=>some (false,E,sz,xs)
 | _=>none
theorem z099 {η:Hd} {J:Nat→Prop} {w:World} {b E sz:Nat} {t:Bool} {o:Obj'} {xs:List (List PV)} (hk:zwj o=some (t,E,sz,xs)) (h:ObjR η J w b o):∃ bl,Tr w J (.os t E sz xs) (η.f b) bl∧bl.Nodup∧∀ k,k∈bl↔Own η b k:=by
 unfold zwj at hk
 split at hk
 ·cases hk;exact z00i h
 ·cases hk;exact zxc h
 ·cases hk
theorem z06g {sz i q j:Nat} {xs:List (List PV)} {e:List PV} {p:PV} (h:∀ x∈xs,x.length=sz) (hi:xs[i]?=some e) (hq:q<sz):(xs.set i (putP e q [p])).flatten[j]?=if j=i*sz+q then some p else xs.flatten[j]?:=by
 rw [zpj h hi (by simp;omega)]
 have hil:=(List.getElem?_eq_some_iff.1 hi).1
 have hfl:i*sz+q<xs.flatten.length:=by
  rw [zf8 h]
  calc i*sz+q<i*sz+sz:=by omega
   _=(i+1)*sz:=by rw [Nat.add_mul];omega
   _≤xs.length*sz:=Nat.mul_le_mul_right _ hil
 have m1:min (i*sz+q) xs.flatten.length=i*sz+q:=by omega
 simp only [List.getElem?_append,List.length_append,List.length_take,List.length_singleton,m1,List.getElem?_take,List.getElem?_drop]
 by_cases c1:j<i*sz+q
 ·have c2:j<i*sz+q+1:=by omega
  have c3:j≠i*sz+q:=by omega
  simp [c1,c2,c3]
 ·by_cases c2:j=i*sz+q
  ·subst c2;simp
  ·have c3:¬ j<i*sz+q+1:=by omega
   simp only [c3,c2,if_false]
   congr 1
   omega
theorem z02o {sz i q:Nat} {xs:List (List PV)} {e:List PV} {p:PV} (h:∀ x∈xs,x.length=sz) (hi:xs[i]?=some e) (hq:q<sz):(∀ x∈xs.set i (putP e q [p]),x.length=sz)∧(xs.set i (putP e q [p])).flatten.length=xs.flatten.length:=by
 have h1:∀ x∈xs.set i (putP e q [p]),x.length=sz:=fun x hx=>by
  rcases List.mem_or_eq_of_mem_set hx with hx|hx
  ·exact h x hx
  ·subst hx
   have:=h e (List.mem_of_getElem? hi)
   simp only [putP,List.length_append,List.length_take,List.length_drop,List.length_singleton];omega
 exact ⟨h1,by rw [zf8 h1,zf8 h,List.length_set]⟩
theorem zo9 {st:z0q} {f:BV→BV} {n b c:Nat} {x:Obj'} {o:Obj'} (h:(((z99 f st).set n none).set b (some x))[c]?=some (some o)):(c=b∧o=x)∨(c≠b∧c≠n∧∃ o0,st[c]?=some (some o0)∧o=o0.map f):=zpm (b:=n) (c:=b) h
theorem zp0 {s:Sx} {b n E sz i q:Nat} {ch t:Bool} {xs:List (List PV)} {y:List PV} {on:Obj'} {E' sz':Nat} {ys:List (List PV)} (hb:s.st[b]?=some (some (.tree true ch (some (i,q,.row n)) E sz xs))) (hn:s.st[n]?=some (some on)) (hk:zwj on=some (t,E',sz',ys))
  (hnb:n≠b) (hy:xs[i]?=some y) (hq:q<sz):Weak G s ⟨s.n,s.m,z5b (prg n) s.env,((z99 (prg n) s.st).set n none).set b (some (.tree true ch none E sz (xs.set i (putP y q [.os t E' sz' ys]))))⟩:=by
 intro E0 η J a w hr
 have hbl:b<s.st.length:=(List.getElem?_eq_some_iff.1 hb).1
 rcases hr.ok.obj b _ hb with ⟨_,h0,_⟩|⟨us,k0,cap,bs,h0,hc,h1,h2,h3,h4,h5⟩
 ·cases h0
 have hil:=(List.getElem?_eq_some_iff.1 hy).1
 have hn5:=List.nodup_cons.1 h5
 obtain ⟨bl,q1,q2,q3⟩:=z099 hk (hr.ok.obj n on hn)
 obtain ⟨z1,z2⟩:=z02o (p:=.os t E' sz' ys) h2 hy hq
 have hdis:∀ k∈bl,¬ Own η b k:=fun k hk h=>hnb (hr.ok.dis n b on _ k hn hb ((q3 k).1 hk) h)
 have hx0:∀ k∈bs.flatten,Own η b k:=fun k hk=>.inr (.inr (by rw [h4];exact hk))
 have hk0:Own η b k0:=.inr (.inl ⟨_,_,h0,hc⟩)
 let η':Hd:=⟨η.f,η.d,fun c=>if c=b then (bs.set (i*sz+q) bl).flatten else η.x c⟩
 have hxb:η'.x b=(bs.set (i*sz+q) bl).flatten:=if_pos rfl
 have hxc:∀ c,c≠b→η'.x c=η.x c:=fun c h=>if_neg h
 have hf:∀ x v,BVr η J w x v→BVr η' J w (prg n x) v:=fun x v h=>zka (η:=η) (η':=η') (fun _ h=>h) (fun _ _=>rfl) (fun _ _=>rfl) h
 have ownb:∀ k,Own η' b k→Own η b k∨Own η n k:=fun k hk=>by
  have:=zfv (η:=η') (n:=xs.length) (cap:=cap) h0 hk
  rw [hxb] at this
  rcases List.mem_cons.1 this with rfl|this
  ·exact .inl hk0
  ·rcases zif this with h|h
   ·exact .inl (hx0 k h)
   ·exact .inr ((q3 k).1 h)
 have ownc:∀ c k,c≠b→Own η' c k→Own η c k:=fun c k h hk=>by unfold Own at hk ⊢;rwa [hxc c h] at hk
 refine ⟨η',J,hr.re (fun t xs ht=>?_) (fun c hc=>by simpa [z99] using hr.ok.len c hc) (fun c o' hc'=>?_) (fun c d o1 o2 k hc' hd' hk1 hk2=>?_) (fun c o' k hc' hk=>?_) (by simp [z99]) (fun c o' hl hc' hs=>?_)⟩
 ·rw [zn7] at ht
  cases hl:lk s.env t with
  | none=>rw [hl] at ht;cases ht
  | some zs=>rw [hl] at ht;injection ht with ht;subst ht;exact Rs.map hf (hr.env t zs hl)
 ·rcases zo9 hc' with ⟨rfl,rfl⟩|⟨hne,hne',o0,h,rfl⟩
  ·refine .inr ⟨us,k0,cap,bs.set (i*sz+q) bl,by rw [List.length_set];exact h0,hc,by rw [List.length_set];exact h1,z1,⟨by rw [z2];exact h3.l1,by rw [List.length_set];exact h3.l2,fun j p u b' g1 g2 g3=>?_⟩,hxb,List.nodup_cons.2 ⟨fun h=>?_,zor hn5.2 q2 (fun k hk h=>hdis k hk (hx0 k h))⟩⟩
   ·rw [z06g h2 hy hq] at g1
    by_cases e:j=i*sz+q
    ·subst e
     rw [if_pos rfl] at g1
     injection g1 with g1
     rw [List.getElem?_set] at g3
     simp only [if_true] at g3
     split at g3
     ·injection g3 with g3
      subst g1;subst g3
      have hj:i*sz+q<xs.flatten.length:=by rw [h3.l1];exact (List.getElem?_eq_some_iff.1 g2).1
      obtain ⟨u',b1,e1,_,e3⟩:=h3.get (List.getElem?_eq_getElem hj)
      simp only [z9j,if_true] at e3
      rw [g2] at e1;injection e1 with e1;subst e1
      have hu:u=η.f n:=e3.2.2.1
      show Tr w J _ u bl
      rw [hu];exact q1
     ·cases g3
    ·rw [if_neg e] at g1
     rw [List.getElem?_set_ne (Ne.symm e)] at g3
     have:=h3.at_ j p u b' g1 g2 g3
     simp only [z9j,if_neg e] at this
     exact this
   ·rcases zif h with h|h
    ·exact hn5.1 h
    ·exact hdis k0 h hk0
  ·have:=(hr.ok.obj c o0 h).map2 (η':=η') (c:=c) (f:=prg n) (w':=w) (J':=J) rfl (hxc c hne) (fun _ _=>rfl) hf (fun _ _ h=>h)
   exact this
 ·rcases zo9 hc' with ⟨rfl,h⟩|⟨hne,hne',o0,h,rfl⟩ <;> rcases zo9 hd' with ⟨rfl,h'⟩|⟨hme,hme',o0',h',rfl⟩
  ·rfl
  ·rcases ownb k hk1 with hk1|hk1
   ·exact hr.ok.dis c d _ o0' k hb h' hk1 (ownc d k hme hk2)
   ·exact absurd (hr.ok.dis n d on o0' k hn h' hk1 (ownc d k hme hk2)).symm hme'
  ·rcases ownb k hk2 with hk2|hk2
   ·exact hr.ok.dis c d o0 _ k h hb (ownc c k hne hk1) hk2
   ·exact absurd (hr.ok.dis c n o0 on k h hn (ownc c k hne hk1) hk2) hne'
  ·exact hr.ok.dis c d o0 o0' k h h' (ownc c k hne hk1) (ownc d k hme hk2)
 ·rcases zo9 hc' with ⟨rfl,h⟩|⟨hne,hne',o0,h,rfl⟩
  ·rcases ownb k hk with hk|hk
   ·exact ⟨c,_,hb,hk,fun _=>rfl⟩
   ·refine ⟨n,on,hn,hk,fun _=>?_⟩
    unfold zwj at *
    split at * <;> first|rfl|(rename_i h' _;cases h')|simp_all
  ·exact ⟨c,o0,h,ownc c k hne hk,fun h=>by rwa [zhh] at h⟩
 ·rcases zo9 hc' with ⟨rfl,rfl⟩|⟨hne,hne',o0,h,rfl⟩
  ·exact ⟨_,hb,hs,rfl⟩
  ·exact ⟨o0,h,by rwa [zii] at hs,rfl⟩
end
section
variable {P:Program} {G:Nat→Option (List PV)} {o:Oper} {s:Sx} {K:Sx→Prop}
def seg {α:Type} (l m:List α) (a:Nat):List α:=l.take a++m++l.drop (a+m.length)
theorem zvr {α:Type} {l m:List α} {a j:Nat} (h:a+m.length≤l.length):(seg l m a)[j]?=if j<a then l[j]? else if j<a+m.length then m[j - a]? else l[j]?:=by
 unfold seg
 have m1:min a l.length=a:=by omega
 simp only [List.getElem?_append,List.length_append,List.length_take,m1,List.getElem?_take,List.getElem?_drop]
 by_cases c1:j<a
 ·have c2:j<a+m.length:=by omega
  simp only [c1,c2,if_true]
 ·by_cases c2:j<a+m.length
  ·simp only [c1,c2,if_true,if_false]
  ·simp only [c1,c2,if_false]
   congr 1
   omega
theorem zoa {α:Type} {l m:List α} {a:Nat} (h:a+m.length≤l.length):(seg l m a).length=l.length:=by
 unfold seg;simp only [List.length_append,List.length_take,List.length_drop];omega
theorem TrH.seg {η:Hd} {J:Nat→Prop} {w:World} {h h':Option (Nat × Nat × BV)} {sz a:Nat} {ps qs:List PV} {us vs:List Value} {bs:List (List Nat)} (t:TrH η J w h sz ps us bs) (ha:a+qs.length≤ps.length) (hl:qs.length=vs.length)
  (h1:∀ (j:Nat) (p:PV) (u:Value),qs[j]?=some p→vs[j]?=some u→CelR η J w (z9j h' sz (a+j)) p u []) (h2:∀ j,¬ (a≤j∧j<a+qs.length)→z9j h' sz j=z9j h sz j) :
  TrH η J w h' sz (Abs.seg ps qs a) (Abs.seg us vs a) (Abs.seg bs (List.replicate vs.length []) a):=by
 have l1:=t.l1
 have l2:=t.l2
 have a2:a+vs.length≤us.length:=by omega
 have a3:a+(List.replicate vs.length ([]:List Nat)).length≤bs.length:=by rw [List.length_replicate];omega
 refine ⟨by rw [zoa ha,zoa a2,l1],by rw [zoa a2,zoa a3,l2],fun j p u b g1 g2 g3=>?_⟩
 rw [zvr ha] at g1
 rw [zvr a2] at g2
 rw [zvr a3,List.length_replicate] at g3
 rw [hl] at g1 h2
 by_cases c1:j<a
 ·rw [if_pos c1] at g1 g2 g3
  rw [h2 j (by omega)]
  exact t.at_ j p u b g1 g2 g3
 ·by_cases c2:j<a+vs.length
  ·rw [if_neg c1,if_pos c2] at g1 g2 g3
   have e:b=[]:=(List.mem_replicate.1 (List.mem_of_getElem? g3)).2
   subst e
   have:=h1 (j - a) p u g1 g2
   rwa [show a+(j - a)=j by omega] at this
  ·rw [if_neg c1,if_neg c2] at g1 g2 g3
   rw [h2 j (by omega)]
   exact t.at_ j p u b g1 g2 g3
theorem z02p {bs:List (List Nat)} {a n:Nat}:(seg bs (List.replicate n []) a).flatten=(bs.take a).flatten++(bs.drop (a+n)).flatten:=by
 unfold seg
 rw [List.flatten_append,List.flatten_append,zft,List.append_nil,List.length_replicate]
theorem z06h {bs:List (List Nat)} {a n:Nat}:((seg bs (List.replicate n []) a).flatten).Sublist bs.flatten:=by
 rw [z02p]
 have e:bs.flatten=(bs.take a).flatten++(((bs.drop a).take n).flatten++(bs.drop (a+n)).flatten):=by
  rw [← List.flatten_append,← List.flatten_append,← List.drop_drop,List.take_append_drop,List.take_append_drop]
 rw [e]
 exact List.Sublist.append (List.Sublist.refl _) (List.sublist_append_right _ _)
theorem zs4 {T E:TypeId} {x y:Operand} {b i off sz sz':Nat} {agg ch:Bool} {hh hh':Option (Nat × Nat × BV)} {xs xs':List (List PV)} {e qs:List PV} {v:XV} {ys:List BV} (hd:o.dst=none) (ho:o.op=.store T x y) (hT:Ty P T agg sz')
  (hx:val G s.env x=some (.c (.rp b sz i off))) (hb:s.st[b]?=some (some (.tree true ch hh E sz xs))) (he:xs[i]?=some e) (hy:val G s.env y=some v) (hc:v.cells=some ys) (hl:ys.length=sz') (hfit:off+ys.length≤sz) (hql:qs.length=ys.length)
  (hz':xs'.length=xs.length∧((∀ z∈xs,z.length=sz)→∀ z∈xs',z.length=sz)) (hxs:(∀ z∈xs,z.length=sz)→xs'.flatten=seg xs.flatten qs (i*sz+off))
  (h1:∀ η J w us,η.d b→L2 (BVr η J w) ys us→∀ (j:Nat) (p:PV) (u:Value),qs[j]?=some p→us[j]?=some u→CelR η J w (z9j hh' sz (i*sz+off+j)) p u [])
  (h2:∀ j,¬ (i*sz+off≤j∧j<i*sz+off+qs.length)→z9j hh' sz j=z9j hh sz j)
  (hk:K ⟨s.n,s.m,s.env,s.st.set b (some (.tree true ch hh' E sz xs'))⟩):OpT P G o s K:=by
 refine zsa hd fun E0 η J a w hr=>?_
 obtain ⟨hdb,k,n',cap',hh1,hh2⟩:=hr.val hx
 have hv:=(hr.val hy).cells hc
 have hil:=(List.getElem?_eq_some_iff.1 he).1
 rcases hr.ok.obj b _ hb with ⟨h0,_⟩|⟨us,k',cap,bs,q0,qc,q1,q3,q2,q4,q5⟩
 ·subst h0;cases he
 rw [hh1] at q0;injection q0 with q0 q6 q7;injection q0 with q0;injection q0 with q0;subst q0;subst q6;subst q7
 rcases q1.2 with ⟨q,_⟩|⟨g,c,cur,q,_,hg,hle,hml,hcs,htake⟩
 ·rw [hh1] at q;cases q
 rw [hh1] at q;injection q with q _ qq;injection q with q;injection q with q;subst q;subst qq
 have hone:∀ u∈(a.eval y).cells.toList,u.oneCell'=true:=fun u hu=>by
  obtain ⟨j,hj⟩:=List.mem_iff_getElem?.1 hu
  have hlt:j<ys.length:=by rw [hv.len];exact (List.getElem?_eq_some_iff.1 hj).1
  exact (hv.at_ j _ u (List.getElem?_eq_getElem hlt) hj).one
 have hcl:(a.eval y).cells.toList.length=ys.length:=hv.len.symm
 have hsz:(a.eval y).cells.size=sz':=by rw [← hl,← hcl];simp
 have hpos:i*sz+off+ys.length≤xs.length*sz:=by
  calc i*sz+off+ys.length≤i*sz+sz:=by omega
   _=(i+1)*sz:=by rw [Nat.add_mul];omega
   _≤xs.length*sz:=Nat.mul_le_mul_right _ hil
 have hcap:xs.length*sz≤cap' * sz:=Nat.mul_le_mul_right _ hle
 have hst:=run_storeCells_at P k (i*sz+off) E (a.eval y).cells.toList 0 cur w hg (by omega) hone
 simp only [Nat.add_zero] at hst
 rw [hcl] at hst
 generalize hnc:(cur.toList.take (i*sz+off)++(a.eval y).cells.toList++cur.toList.drop (i*sz+off+ys.length))=nl at hst
 have hown:Own η b k:=.inr (.inl ⟨_,_,hh1,qc⟩)
 have hjk:¬ J k:=hr.ok.jd b _ k hb hown
 have hJw:∀ j,J j→(w.setRow k nl.toArray).heap[j]?=w.heap[j]?:=fun j hj=>z8i w k j _ (fun e=>hjk (e ▸ hj))
 have hlc:cur.toList.length=cap' * sz:=by simp [hcs]
 have hnl:nl.length=cap' * sz:=by
  rw [← hnc];simp only [List.length_append,List.length_take,List.length_drop,hcl,hlc];omega
 have hus:us=cur.toList.take (xs.length*sz):=htake.symm
 have hul:us.length=xs.length*sz:=q1.1
 have hfl:xs.flatten.length=xs.length*sz:=zf8 q3
 let bs':=seg bs (List.replicate (a.eval y).cells.toList.length []) (i*sz+off)
 have hsub:bs'.flatten.Sublist bs.flatten:=z06h
 have hn5:=List.nodup_cons.1 q5
 let η':Hd:=⟨η.f,η.d,fun c=>if c=b then bs'.flatten else η.x c⟩
 have hxb:η'.x b=bs'.flatten:=if_pos rfl
 have hf:∀ x v,BVr η J w x v→BVr η' J (w.setRow k nl.toArray) (id x) v:=fun x v hx=>BVr.mono (η:=η) (η':=η') (fun _ h=>h) hJw (fun _ h _=>⟨h,rfl⟩) hx
 have hR:∀ p v,Rd w J p v→Rd (w.setRow k nl.toArray) J p v:=fun p v h=>Rd.mono (fun _ h=>h) hJw h
 have tnew:=q2.seg (a:=i*sz+off) (qs:=qs) (vs:=(a.eval y).cells.toList) (h':=hh') (by rw [hql,hfl];exact hpos) (by rw [hql,hcl]) (fun j p u g1 g2=>h1 η J w _ hdb hv j p u g1 g2) h2
 have tnew2:=tnew.mono (η':=η') (J':=J) (w':=w.setRow k nl.toArray) (f:=id) hR (fun j hj=>z8i w k j _ (fun e=>hn5.1 (hsub.subset (e ▸ hj)))) hf
 have hmapid:(hh'.map fun q=>(q.1,q.2.1,id q.2.2))=hh':=by cases hh' <;> rfl
 rw [hmapid,← hxs q3] at tnew2
 refine ⟨w.setRow k nl.toArray,η',J,⟨s.n,s.m,z5b id s.env,(z99 id s.st).set b (some (.tree true ch hh' E sz xs'))⟩,?_,?_,by rw [z7x,zf7];exact hk⟩
 ·simp only [execOp,ho,hh2,Instr.storeAt,Instr.sureAddr,storeVar]
  simp [z5c hT,hsz,hst]
 ·refine hr.turn (o:=.tree true ch hh E sz xs) (η':=η') ⟨hb,rfl,fun _ h=>h,fun _ _=>rfl,fun c hc=>if_neg hc,fun _ h=>h,rfl,rfl,rfl,by simp,fun j hj hn=>z8i w k j _ (fun e=>hn (e ▸ hown)),hf,fun o' ho'=>?_,fun o' j ho' hj=>?_,fun j hj=>.inl hj⟩
  ·injection ho' with ho'
   subst ho'
   refine ⟨.inr ⟨_,k,cap',bs',by rw [hz'.1];exact hh1,qc,⟨?_,.inr ⟨k,cap',nl.toArray,by rw [hz'.1];exact congrArg _ rfl |>.trans (by rw [show η'.f b=η.f b from rfl,hh1]),Nat.zero_le _,zhi w k _ cur E hg,by rw [hz'.1];exact hle,hml,by simpa using hnl,?_⟩⟩,hz'.2 q3,tnew2,hxb,List.nodup_cons.2 ⟨fun h=>hn5.1 (hsub.subset h),hn5.2.sublist hsub⟩⟩,rfl,fun h=>⟨h,rfl⟩⟩
   ·rw [hz'.1,zoa (by rw [hcl,hul];exact hpos),hul]
   ·rw [hz'.1,hus]
    show nl.take (xs.length*sz)=_
    rw [← hnc]
    unfold seg
    apply List.ext_getElem?
    intro j
    simp only [List.getElem?_append,List.length_append,List.length_take,List.length_drop,List.getElem?_take,List.getElem?_drop,hcl,hlc]
    have m1:min (i*sz+off) (cap' * sz)=i*sz+off:=by omega
    have m2:min (i*sz+off) (min (xs.length*sz) (cap' * sz))=i*sz+off:=by omega
    rw [m1,m2]
    by_cases c0:j<xs.length*sz
    ·by_cases c1:j<i*sz+off
     ·have e3:j<i*sz+off+ys.length:=by omega
      simp only [c0,c1,e3,if_true]
     ·by_cases c2:j<i*sz+off+ys.length
      ·simp only [c0,c2,c1,if_true,if_false]
      ·have e5:i*sz+off+ys.length+(j - (i*sz+off+ys.length))=j:=by omega
       simp only [c0,c2,e5,if_true,if_false]
    ·have c2:¬ j<i*sz+off+ys.length:=by omega
     have e5:i*sz+off+ys.length+(j - (i*sz+off+ys.length))=j:=by omega
     simp only [c0,c2,e5,if_false]
  ·injection ho' with ho'
   subst ho'
   have:=zfv (η:=η') (n:=xs.length) (cap:=cap') hh1 hj
   rw [hxb] at this
   rcases List.mem_cons.1 this with rfl|this
   ·exact ⟨.inr hown,hjk⟩
   ·have:Own η b j:=.inr (.inr (by rw [q4];exact hsub.subset this))
    exact ⟨.inr this,fun hJ=>hr.ok.jd b _ j hb this hJ⟩
theorem zyp {T E:TypeId} {x y:Operand} {b i off sz sz':Nat} {agg ch:Bool} {hh:Option (Nat × Nat × BV)} {xs:List (List PV)} {e ps:List PV} {v:XV} {ys:List BV} (hd:o.dst=none) (ho:o.op=.store T x y) (hT:Ty P T agg sz')
  (hx:val G s.env x=some (.c (.rp b sz i off))) (hb:s.st[b]?=some (some (.tree true ch hh E sz xs))) (he:xs[i]?=some e) (hy:val G s.env y=some v) (hc:v.cells=some ys) (hp:zje ys=some ps) (hl:ps.length=sz') (hfit:off+ps.length≤sz)
  (hn:∀ j,j<ps.length→z9j hh sz (i*sz+off+j)=none)
  (hk:K ⟨s.n,s.m,s.env,s.st.set b (some (.tree true ch hh E sz (xs.set i (putP e off ps))))⟩):OpT P G o s K:=by
 have hyl:ys.length=ps.length:=by
  have:∀ {l:List BV} {r:List PV},zje l=some r→l.length=r.length:=by
   intro l
   induction l with
   | nil=>intro r h;injection h with h;subst h;rfl
   | cons x l ih =>
    intro r h
    simp only [zje] at h
    split at h
    ·rename_i p ps' hp hps
     injection h with h;subst h
     simp [ih hps]
    ·cases h
  exact this hp
 refine zs4 (qs:=ps) hd ho hT hx hb he hy hc (by omega) (by omega) hyl.symm ⟨by simp,fun hzs z hz=>?_⟩ (fun h3=>zpj h3 he hfit) (fun η J w us _ hv j p u g1 g2=>?_) (fun _ _=>rfl) hk
 ·rcases List.mem_or_eq_of_mem_set hz with hz|hz
  ·exact hzs z hz
  ·subst hz
   have:=hzs e (List.mem_of_getElem? he)
   simp only [putP,List.length_append,List.length_take,List.length_drop];omega
 ·rw [hn j (List.getElem?_eq_some_iff.1 g1).1]
  exact .pl p u ((zgp hp hv).at_ j p u g1 g2)
theorem zyq {T E:TypeId} {x y:Operand} {b i off sz sz':Nat} {agg ch:Bool} {hh:Option (Nat × Nat × BV)} {xs:List (List PV)} {e:List PV} {v:XV} {z:BV} (hd:o.dst=none) (ho:o.op=.store T x y) (hT:Ty P T agg sz')
  (hx:val G s.env x=some (.c (.rp b sz i off))) (hb:s.st[b]?=some (some (.tree true ch hh E sz xs))) (he:xs[i]?=some e) (hes:off<e.length) (hy:val G s.env y=some v) (hc:v.cells=some [z]) (hl:1=sz') (hfit:off<sz)
  (hh0:∀ r q u,hh=some (r,q,u)→r=i∧q=off)
  (hk:K ⟨s.n,s.m,s.env,s.st.set b (some (.tree true ch (some (i,off,z)) E sz xs))⟩):OpT P G o s K:=by
 have ho1:e[off]?=some (e[off]'(by omega)):=List.getElem?_eq_getElem _
 refine zs4 (qs:=[e[off]'(by omega)]) hd ho hT hx hb he hy hc (by simpa using hl) (by simpa using Nat.succ_le_of_lt hfit) rfl ⟨rfl,fun h=>h⟩ (fun h3=>?_) (fun η J w us _ hv j p u g1 g2=>?_) (fun j hj=>?_) hk
 ·have hf:=z70 h3 he ho1
  have hlt:=(List.getElem?_eq_some_iff.1 hf).1
  apply List.ext_getElem?
  intro j
  rw [zvr (by simp only [List.length_singleton];omega)]
  by_cases c1:j<i*sz+off
  ·rw [if_pos c1]
  ·by_cases c2:j=i*sz+off
   ·subst c2;rw [hf];simp
   ·rw [if_neg c1,if_neg (by simp;omega)]
 ·have hj:j=0:=by have:=(List.getElem?_eq_some_iff.1 g1).1;simp at this;exact this
  subst hj
  simp only [z9j,Nat.add_zero,if_true]
  exact ⟨rfl,hv.at_ 0 z u rfl g2⟩
 ·have hj:j≠i*sz+off:=fun e=>hj ⟨by omega,by simp;omega⟩
  simp only [z9j,if_neg hj]
  split
  ·rename_i r q u
   obtain ⟨rfl,rfl⟩:=hh0 r q u rfl
   rw [if_neg hj]
  ·rfl
end
section
variable {P:Program} {G:Nat→Option (List PV)} {o:Oper} {s:Sx} {K:Sx→Prop}
def ck (sz:Nat):Nat→List PV→List (List PV)
 | 0,_=>[]
 | n+1,l=>l.take sz::ck sz n (l.drop sz)
theorem zr2 {sz:Nat}:∀ {n:Nat} {l:List PV},(ck sz n l).length=n
 | 0,_=>rfl
 | n+1,l=>by simp [ck,zr2]
theorem znj {sz:Nat}:∀ {n:Nat} {l:List PV},l.length=n*sz→(∀ x∈ck sz n l,x.length=sz)∧(ck sz n l).flatten=l
 | 0,l,h=>by
  have:l=[]:=List.eq_nil_of_length_eq_zero (by simpa using h)
  subst this
  exact ⟨fun x hx=>by simp [ck] at hx,rfl⟩
 | n+1,l,h=>by
  have hm:(n+1)*sz=n*sz+sz:=Nat.succ_mul n sz
  obtain ⟨h1,h2⟩:=znj (sz:=sz) (n:=n) (l:=l.drop sz) (by rw [List.length_drop];omega)
  refine ⟨fun x hx=>?_,?_⟩
  ·simp only [ck,List.mem_cons] at hx
   rcases hx with rfl|hx
   ·rw [List.length_take];omega
   ·exact h1 x hx
  ·simp only [ck,List.flatten_cons,h2,List.take_append_drop]
theorem zsm {sz:Nat}:∀ {n:Nat} {l:List PV} {i:Nat} {y:List PV},(ck sz n l)[i]?=some y→i<n∧y=(l.drop (i*sz)).take sz
 | 0,l,i,y,h=>by simp [ck] at h
 | n+1,l,0,y,h=>by simp [ck] at h;exact ⟨by omega,by simp [h]⟩
 | n+1,l,i+1,y,h=>by
  simp only [ck,List.getElem?_cons_succ] at h
  obtain ⟨h1,h2⟩:=zsm h
  refine ⟨by omega,?_⟩
  rw [h2,List.drop_drop,Nat.succ_mul,Nat.add_comm]
abbrev Inf:=List (Nat × (Bool × Nat × Nat))
def toT (inf:Inf):Nat→List BV→Option (List PV)
 | _,[]=>some []
 | i,.pv p::r=>(toT inf (i+1) r).map (p::·)
 | i,.emp::r=>(toT inf (i+1) r).map ((match as1 inf i with|some (t,E,sz)=>.os t E sz []|none=>.sl [])::·)
 | i,.row _::r=>match as1 inf i with
  | some (t,E,sz)=>(toT inf (i+1) r).map (.os t E sz []::·)
  | none=>none
 | _,_=>none
def zcf:Nat→List BV→List (Nat × Nat)
 | _,[]=>[]
 | i,.row c::r=>(i,c)::zcf (i+1) r
 | i,_::r=>zcf (i+1) r
theorem z00l {inf:Inf}:∀ {cs:List BV} {i:Nat} {ps:List PV},toT inf i cs=some ps→cs.length=ps.length
 | [],i,ps,h=>by injection h with h;subst h;rfl
 | x::r,i,ps,h=>by
  have fin:∀ {p:PV},(toT inf (i+1) r).map (p::·)=some ps→(x::r).length=ps.length:=fun {p} h=>by
   simp only [Option.map_eq_some_iff] at h
   obtain ⟨ps',h1,rfl⟩:=h
   simp [z00l h1]
  cases x with
  | pv p=>exact fin h
  | emp=>exact fin h
  | row c =>
   simp only [toT] at h
   split at h
   ·exact fin h
   ·cases h
  | _=>cases h
theorem z03u {inf:Inf} {η:Hd} {J:Nat→Prop} {w:World}:∀ {cs:List BV} {us:List Value} {i:Nat} {ps:List PV},toT inf i cs=some ps→L2 (BVr η J w) cs us →
  ∀ (j:Nat) (p:PV) (u:Value),ps[j]?=some p→us[j]?=some u→(∃ c,cs[j]?=some (.row c)∧(i+j,c)∈zcf i cs∧BVr η J w (.row c) u)∨((∀ c,(i+j,c) ∉ zcf i cs)∧Tr w J p u [])
 | [],us,i,ps,h,hl,j,p,u,h1,h2=>by injection h with h;subst h;simp at h1
 | x::r,us,i,ps,h,hl,j,p,u,h1,h2=>by
  obtain ⟨u0,us',rfl,hu,hr⟩:=hl.uncons
  have big:∀ (l:List BV) (k:Nat) (q:Nat × Nat),q∈zcf k l→k≤q.1:=by
   intro l
   induction l with
   | nil=>intro k q h;cases h
   | cons y l ih =>
    intro k q h
    cases y <;> simp only [zcf,List.mem_cons] at h
    case row c =>
     rcases h with rfl|h
     ·exact Nat.le_refl _
     ·have:=ih _ _ h;omega
    all_goals (have:=ih _ _ h;omega)
  have rest:∀ {p0:PV} {ps':List PV},toT inf (i+1) r=some ps'→ps=p0::ps'→(∀ c,(i,c) ∉ zcf i (x::r)→True)→(j=0→(∃ c,(x::r)[j]?=some (.row c)∧(i+j,c)∈zcf i (x::r)∧BVr η J w (.row c) u)∨((∀ c,(i+j,c) ∉ zcf i (x::r))∧Tr w J p u [])) →
    (∃ c,(x::r)[j]?=some (.row c)∧(i+j,c)∈zcf i (x::r)∧BVr η J w (.row c) u)∨((∀ c,(i+j,c) ∉ zcf i (x::r))∧Tr w J p u []):=by
   intro p0 ps' hps e _ h0
   cases j with
   | zero=>exact h0 rfl
   | succ j =>
    subst e
    have:=z03u hps hr j p u (by simpa using h1) (by simpa using h2)
    rw [show i+1+j=i+(j+1) by omega] at this
    rcases this with ⟨c,a1,a2,a3⟩|⟨a1,a2⟩
    ·refine .inl ⟨c,by simpa using a1,?_,a3⟩
     cases x <;> simp only [zcf,List.mem_cons] <;> first|exact .inr a2|exact a2
    ·refine .inr ⟨fun c h=>?_,a2⟩
     cases x <;> simp only [zcf,List.mem_cons] at h
     case row c' =>
      rcases h with h|h
      ·injection h with h _;omega
      ·exact a1 c h
     all_goals exact a1 c h
  have notin:∀ c,(i,c) ∉ zcf (i+1) r:=fun c h=>by have:=big _ _ _ h;simp only at this;omega
  cases x with
  | pv p0 =>
   simp only [toT,Option.map_eq_some_iff] at h
   obtain ⟨ps',hps,rfl⟩:=h
   refine rest hps rfl (fun _ _=>trivial) (fun e=>?_)
   subst e
   simp only [List.getElem?_cons_zero,Option.some.injEq] at h1 h2
   subst h1;subst h2
   exact .inr ⟨fun c h=>notin c h,.pl _ _ hu⟩
  | emp =>
   simp only [toT,Option.map_eq_some_iff] at h
   obtain ⟨ps',hps,rfl⟩:=h
   refine rest hps rfl (fun _ _=>trivial) (fun e=>?_)
   subst e
   simp only [List.getElem?_cons_zero,Option.some.injEq] at h1 h2
   subst h1;subst h2
   refine .inr ⟨fun c h=>notin c h,?_⟩
   obtain ⟨A,rfl⟩:=hu
   split
   ·exact .nil _ _ _ A
   ·exact .pl _ _ (.nil A 0)
  | row c0 =>
   simp only [toT] at h
   split at h
   ·simp only [Option.map_eq_some_iff] at h
    obtain ⟨ps',hps,rfl⟩:=h
    refine rest hps rfl (fun _ _=>trivial) (fun e=>?_)
    subst e
    simp only [List.getElem?_cons_zero,Option.some.injEq] at h1 h2
    subst h1;subst h2
    exact .inl ⟨c0,rfl,by simp [zcf],hu⟩
   ·cases h
  | _=>cases h
def zr4 (n sz:Nat):List (Nat × Nat)→Option (Option (Nat × Nat × BV))
 | []=>some none
 | [(i,c)]=>some (some (n+i / sz,i % sz,.row c))
 | _=>none
theorem zwi {t:Nat} {T E T0:TypeId} {x y:Operand} {b l len sz bytes:Nat} {ch m0:Bool} {cs:List BV} {ps:List PV} {inf:Inf} {hh:Option (Nat × Nat × BV)} {xs:List (List PV)} (hd:o.dst=some t) (ht:decide (t<s.n)=true)
  (ho:o.op=.call { callee:=.builtin .append,args:=#[x,y],argTypes:=#[T,T] }) (hu:P.underlying T=some (.slice E)) (hE:TyE P E sz bytes) (hb0:0<bytes)
  (hx:val G s.env x=some (.c (.row b))) (hb:s.st[b]?=some (some (.tree true ch none E sz xs))) (hy:val G s.env y=some (.c (.bx l len))) (hl0:s.st[l]?=some (some (.box m0 T0 cs))) (hlen:cs.length=len*sz) (hpos:0<len)
  (hps:toT inf 0 cs=some ps) (hh0:zr4 xs.length sz (zcf 0 cs)=some hh) (hnb:∀ q∈zcf 0 cs,q.2≠b) (hbytes:(xs.length+len)*bytes≤140737488355328)
  (hk:K ⟨s.n,s.m,(t,[.c (.row b)])::z5b (prg b) s.env,(z99 (prg b) s.st).set b (some (.tree true true hh E sz (xs++ck sz len ps)))⟩):OpT P G o s K:=by
 refine zmj hd fun E0 η J a w hr=>?_
 obtain ⟨hbn,hv,hone⟩:=hr.val hx
 obtain ⟨_,k1,hy1,hy2⟩:=hr.val hy
 obtain ⟨k2,vs,l1,l2,l3⟩:=hr.box hl0
 rw [l1] at hy1;injection hy1 with hy1;injection hy1 with hy1;injection hy1 with hy1;subst hy1
 have hbe:=hr.ok.obj b _ hb
 have hrun0:∀ w2 v2,(Builtin.append_ #[T,T] o.type #[a.eval x,a.eval y]).run P w=.ok v2 w2→(execOp a.eval o).run P w=.ok (.value v2) w2:=fun w2 v2 h=>by
  simp [execOp,ho,resolve,invoke,builtin,h]
 have hpl:=z00l hps
 have hvl:vs.length=len*sz:=by rw [← l3.len];exact hlen
 have h1:∀ u∈vs,u.oneCell'=true:=fun u hu2=>by
  obtain ⟨i,hi⟩:=List.mem_iff_getElem?.1 hu2
  have hlt:i<cs.length:=by rw [l3.len];exact (List.getElem?_eq_some_iff.1 hi).1
  exact (l3.at_ i _ u (List.getElem?_eq_getElem hlt) hi).one
 have hvv:∃ olds bs,((xs.length=0∧olds=[]∧∃ A,a.eval x=.slice A 0 0)∨(w.ownsRow 0 E sz (a.eval x) xs.length olds∧∃ k cap,a.eval x=.slice (some ⟨k,0,none⟩) xs.length cap∧0<cap))∧TrH η J w none sz xs.flatten olds bs∧(∀ e∈xs,e.length=sz)∧η.x b=bs.flatten∧bs.flatten.Nodup∧∀ k n cap,a.eval x=.slice (some ⟨k,0,none⟩) n cap→0<cap→k ∉ bs.flatten:=by
  rcases hbe with ⟨q0,_,q1,A',h1⟩|⟨us',k,cap,bs,q0,qc,q1,q2,q3,q4,q5⟩
  ·subst q0;exact ⟨[],[],.inl ⟨rfl,rfl,A',hv.trans h1⟩,⟨rfl,rfl,(fun i p u b h=>by simp at h)⟩,(fun e he=>by cases he),q1,List.nodup_nil,(fun k n cap _ _ h=>by cases h)⟩
  ·refine ⟨us',bs,.inr ⟨by rw [hv];exact q1,k,cap,hv.trans q0,qc⟩,q3,q2,q4,(List.nodup_cons.1 q5).2,fun k' n cap' he _=>?_⟩
   rw [hv,q0] at he;injection he with he;injection he with he;injection he with he;subst he
   exact (List.nodup_cons.1 q5).1
 obtain ⟨olds,bs,hvv,ho1,ho2,ho3,ho4,ho5⟩:=hvv
 obtain ⟨v',w',hrun,ap⟩:=zij (ty:=o.type) hu hE w (a.eval x) xs.length olds hvv ⟨k2,0,none⟩ len len vs hvl (fun j u hju=>by rw [Addr.add_lit,Nat.zero_add];exact l2 j u hju) h1 hpos hb0 hbytes
 rw [← hy2] at hrun
 obtain ⟨k,cap,e1,e2,e3,e4⟩:=ap.res
 have ownb:∀ j,(∃ m cap,a.eval x=.slice (some ⟨j,0,none⟩) m cap∧0<cap)→Own η b j:=fun j ⟨m,cap,hj,hp⟩=>.inr (.inl ⟨m,cap,hv.symm.trans hj,hp⟩)
 have keep:∀ j,j<w.heap.size→¬ (∃ m cap,a.eval x=.slice (some ⟨j,0,none⟩) m cap∧0<cap)→w'.heap[j]?=w.heap[j]?:=fun j hj hn=>ap.keep j hj (fun m cap he=>by
  rcases Nat.eq_zero_or_pos cap with h|h
  ·exact h
  ·exact absurd ⟨m,cap,he,h⟩ hn)
 have keep':∀ j,j<w.heap.size→¬ Own η b j→w'.heap[j]?=w.heap[j]?:=fun j hj hn=>keep j hj (fun h=>hn (ownb j h))
 have hJw:∀ j,J j→w'.heap[j]?=w.heap[j]?:=fun j hj=>keep' j (hr.ok.jlt j hj) (fun ho=>hr.ok.jd b _ j hb ho hj)
 have hxw:∀ j∈bs.flatten,w'.heap[j]?=w.heap[j]?:=fun j hj=>keep j (ho1.lt j hj) (fun ⟨m,cap,he,hp⟩=>ho5 j m cap he hp hj)
 have hx0:∀ j∈bs.flatten,Own η b j:=fun j hj=>.inr (.inr (by rw [ho3];exact hj))
 let η':Hd:=⟨fun c=>if c=b then v' else η.f c,η.d,fun c=>if c=b then bs.flatten else η.x c⟩
 have hηb:η'.f b=v':=if_pos rfl
 have hηc:∀ c,c≠b→η'.f c=η.f c:=fun c hc=>if_neg hc
 have hxb:η'.x b=bs.flatten:=if_pos rfl
 have hpf:∀ x v,BVr η J w x v→BVr η' J w' (prg b x) v:=fun x v h=>zka (η:=η) (η':=η') (fun _ h=>h) hηc hJw h
 have hR:∀ p v,Rd w J p v→Rd w' J p v:=fun p v h=>Rd.mono (fun _ h=>h) hJw h
 have hkn:k ∉ bs.flatten:=fun h=>by
  rcases e4 with ⟨m,c',e5,e6⟩|e5
  ·exact ho5 k m c' e5 e6 h
  ·have:=ho1.lt k h;omega
 have hrows:=znj (sz:=sz) (n:=len) (l:=ps) (by rw [← hpl];exact hlen)
 refine ⟨v',w',η',J,_,[.c (.row b)],hrun0 _ _ hrun,hr.turn (b:=b) (o:=.tree true ch none E sz xs) (f:=prg b) (new:=some (.tree true true hh E sz (xs++ck sz len ps))) ⟨hb,rfl,fun _ h=>h,hηc,fun c hc=>if_neg hc,fun _ h=>h,ap.os,ap.tape,ap.output,ap.size,keep',hpf,fun o' ho'=>?_,fun o' j ho' hj=>?_,fun _ h=>.inl h⟩,by simpa using ht,⟨hbn,hηb.symm,by rw [e1];rfl⟩,hk⟩
 ·injection ho' with ho';subst ho'
  have hlen2:(xs++ck sz len ps).length=xs.length+len:=by rw [List.length_append,zr2]
  refine ⟨.inr ⟨olds++vs,k,cap,bs++List.replicate vs.length [],by rw [hηb,hlen2];exact e1,e2,by rw [hηb,hlen2];exact e3,fun e he=>?_,?_,?_,?_⟩,rfl,(fun h=>by cases h)⟩
  ·rcases List.mem_append.1 he with he|he
   ·exact ho2 e he
   ·exact hrows.1 e he
  ·rw [List.flatten_append,hrows.2]
   have ol:xs.flatten.length=xs.length*sz:=zf8 ho2
   have oa:=ho1.l1
   have ob:=ho1.l2
   refine ⟨by rw [List.length_append,List.length_append,oa,← hpl,l3.len],by rw [List.length_append,List.length_append,ob,List.length_replicate],fun j p u b' g1 g2 g3=>?_⟩
   by_cases hj:j<xs.flatten.length
   ·rw [List.getElem?_append_left hj] at g1
    rw [List.getElem?_append_left (by omega)] at g2
    rw [List.getElem?_append_left (by omega)] at g3
    have hn:z9j hh sz j=none:=by
     unfold zr4 at hh0
     split at hh0
     ·cases hh0;rfl
     ·rename_i i c hri
      cases hh0
      simp only [z9j]
      rw [if_neg]
      intro e
      have hsz:(xs.length+i / sz)*sz=xs.length*sz+i / sz*sz:=Nat.add_mul _ _ _
      omega
     ·cases hh0
    rw [hn]
    exact Tr.mono (ho1.at_ j p u b' g1 g2 g3) hR (fun q hq=>hxw q (zgm g3 hq))
   ·rw [List.getElem?_append_right (by omega)] at g1
    rw [List.getElem?_append_right (by omega)] at g2
    rw [List.getElem?_append_right (by omega)] at g3
    have eb:b'=[]:=(List.mem_replicate.1 (List.mem_of_getElem? g3)).2
    subst eb
    rw [← oa] at g2
    rcases z03u hps l3 (j - xs.flatten.length) p u g1 g2 with ⟨c,a1,a2,a3⟩|⟨a1,a2⟩
    ·rw [Nat.zero_add] at a2
     have hcb:=hnb _ a2
     unfold zr4 at hh0
     split at hh0
     ·rename_i hri;rw [hri] at a2;cases a2
     ·rename_i i c' hri
      rw [hri] at a2
      have e:=List.mem_singleton.1 a2
      injection e with e5 e6
      subst e6
      cases hh0
      have hji:j=(xs.length+i / sz)*sz+i % sz:=by
       rw [Nat.add_mul]
       have:=Nat.div_add_mod i sz
       rw [Nat.mul_comm sz] at this
       omega
      simp only [z9j,if_pos hji]
      refine ⟨rfl,?_⟩
      have:=hpf _ _ a3
      simp only [prg,if_neg hcb] at this
      exact this
     ·cases hh0
    ·have hn:z9j hh sz j=none:=by
      unfold zr4 at hh0
      split at hh0
      ·cases hh0;rfl
      ·rename_i i c hri
       cases hh0
       simp only [z9j]
       rw [if_neg]
       intro e
       have hsz:(xs.length+i / sz)*sz=xs.length*sz+i / sz*sz:=Nat.add_mul _ _ _
       have:=Nat.div_add_mod i sz
       rw [Nat.mul_comm sz] at this
       refine a1 c ?_
       rw [hri,Nat.zero_add,show j - xs.flatten.length=i by omega]
       exact List.mem_singleton.2 rfl
      ·cases hh0
     rw [hn]
     exact Tr.mono a2 hR (fun q hq=>by cases hq)
  ·rw [hxb,List.flatten_append,zft,List.append_nil]
  ·rw [List.flatten_append,zft,List.append_nil]
   exact List.nodup_cons.2 ⟨hkn,ho4⟩
 ·have:=zfv (η:=η') (b:=b) (k:=k) (n:=xs.length+len) (cap:=cap) (by rw [hηb];exact e1) hj
  rw [hxb] at this
  rcases List.mem_cons.1 this with rfl|this
  ·rcases e4 with ⟨m,c',e5,e6⟩|e5
   ·have:=ownb j ⟨m,c',e5,e6⟩
    exact ⟨.inr this,hr.ok.jd b _ j hb this⟩
   ·exact ⟨.inl e5,fun h=>by have:=hr.ok.jlt j h;omega⟩
  ·exact ⟨.inr (hx0 j this),hr.ok.jd b _ j hb (hx0 j this)⟩
end
section
variable {P:Program} {G:Nat→Option (List PV)} {o:Oper} {s:Sx} {K:Sx→Prop}
def psub (len:Nat) (a b:Int):Option (Nat × Nat):=if 0≤a∧a≤b∧b≤len then some (a.toNat,(b - a).toNat) else none
theorem z07c {len:Nat} {a b:Int} {p:Nat × Nat} (h:psub len a b=some p):0≤a∧a≤b∧b≤len∧p=(a.toNat,(b - a).toNat):=by
 unfold psub at h
 split at h
 ·rename_i e;injection h with h;exact ⟨e.1,e.2.1,e.2.2,h.symm⟩
 ·cases h
theorem zsq {T e T0:TypeId} {x:Operand} {lo hi:Option Operand} {b l r sz:Nat} {agg m ch:Bool} {xs:List (List PV)} (ho:o.op=.slice T x lo hi none) (hu:P.underlying T=some (.slice e)) (hT:Ty P e agg sz)
  (hx:val G s.env x=some (.c (.row b))) (hb:s.st[b]?=some (some (.row m ch T0 sz xs))) (hlo:Bd G s.env lo 0 l) (hhi:Bd G s.env hi xs.length r) (hlr:l≤r) (hr:r≤xs.length):LtT P G o s [.c (.pr b sz l (r - l))]:=by
 intro E η J a w h
 obtain ⟨hn0,hv,_⟩:=h.val hx
 rcases (h.ok.obj b _ hb).2 with ⟨q0,A,q1⟩|⟨us,k,cap,q0,qc,q1,_⟩
 ·subst q0
  have hr0:r=0:=by simpa using hr
  have hl0:l=0:=by omega
  subst hr0;subst hl0
  have h2:=zaa (P:=P) (isS:=true) h hlo hhi hlr (Nat.zero_le 0)
  simp only [List.length_nil] at h2
  exact ⟨.slice A 0 0,by simp only [execOp,ho,hv,q1,Instr.sliceAt];simp [Instr.slice,run_underlying hu,h2,z5c hT],hn0,.inl ⟨rfl,_,_,rfl⟩⟩
 ·have hcap:xs.length≤cap:=by
   rcases q1.2 with ⟨q,_⟩|⟨g,c',cur,q,_,_,hcc,_⟩
   ·rw [q0] at q;cases q
   ·rw [q0] at q;injection q with _ _ q;subst q;exact hcc
  have h2:=zaa (P:=P) (isS:=true) h hlo hhi hlr (Nat.le_trans hr hcap)
  refine ⟨_,by simp only [execOp,ho,hv,q0,Instr.sliceAt];simp [Instr.slice,run_underlying hu,h2,z5c hT,Addr.add_lit];rfl,hn0,?_⟩
  by_cases hm:cap=l
  ·have e0:r - l=0:=by omega
   rw [e0]
   exact .inl ⟨rfl,_,_,rfl⟩
  ·refine .inr ⟨k,_,_,cap - l,q0,?_⟩
   rw [if_neg hm]
def pcp {α:Type} (L:List α) (i j N:Nat):List α:=L.take i++(L.drop j).take N++L.drop (i+N)
theorem z05b {α β:Type} (f:α→β) (L:List α) (i j N:Nat):pcp (L.map f) i j N=(pcp L i j N).map f:=by
 unfold pcp;simp [List.map_take,List.map_drop]
theorem z00m {α:Type} {L:List α} {i j N:Nat} (h1:i+N≤L.length) (h2:j+N≤L.length):(pcp L i j N).length=L.length:=by
 unfold pcp;simp only [List.length_append,List.length_take,List.length_drop];omega
theorem zmh:∀ {xs:List (List PV)} (_:∀ y∈xs,y.length=1) (k:Nat),(xs.drop k).flatten=xs.flatten.drop k
 | [],_,k=>by simp
 | x::xs,h,0=>by simp
 | x::xs,h,k+1=>by
  have hx:=h x List.mem_cons_self
  have:=zmh (xs:=xs) (fun y hy=>h y (List.mem_cons_of_mem _ hy)) k
  match x,hx with
  | [p],_=>simpa using this
theorem zqg:∀ {xs:List (List PV)} (_:∀ y∈xs,y.length=1) (k:Nat),(xs.take k).flatten=xs.flatten.take k
 | [],_,k=>by simp
 | x::xs,h,0=>by simp
 | x::xs,h,k+1=>by
  have hx:=h x List.mem_cons_self
  have:=zqg (xs:=xs) (fun y hy=>h y (List.mem_cons_of_mem _ hy)) k
  match x,hx with
  | [p],_=>simpa using this
theorem z01f {t:Nat} {T E:TypeId} {x y:Operand} {b i n j m:Nat} {ch:Bool} {xs:List (List PV)} (hd:o.dst=some t) (ht:decide (t<s.n)=true)
  (ho:o.op=.call { callee:=.builtin .copy,args:=#[x,y],argTypes:=#[T,T] }) (hu:P.underlying T=some (.slice E)) (hs1:(P.info? E).map (·.size)=some 1)
  (hx:val G s.env x=some (.c (.pr b 1 i n))) (hb:s.st[b]?=some (some (.row true ch E 1 xs))) (hy:val G s.env y=some (.c (.pr b 1 j m))) (hin:i+n≤xs.length) (hjm:j+m≤xs.length)
  (hk:K ⟨s.n,s.m,(t,[.c (.pv (.int .i64 (min (m:Int) (n:Int))))])::s.env,s.st.set b (some (.row true ch E 1 (pcp xs i j (min m n))))⟩):OpT P G o s K:=by
 refine zmj hd fun E0 η J a w hr=>?_
 obtain ⟨hbn,hv⟩:=hr.val hx
 obtain ⟨_,hv'⟩:=hr.val hy
 have hrun0:∀ w2 v2,(Builtin.copy_ #[T,T] o.type #[a.eval x,a.eval y]).run P w=.ok v2 w2→(execOp a.eval o).run P w=.ok (.value v2) w2:=fun w2 v2 h=>by
  simp [execOp,ho,resolve,invoke,builtin,h]
 have hxv:∃ d c,a.eval x=.slice d n c:=by
  rcases hv with ⟨rfl,A,c,h⟩|⟨k,len,cap,c,_,h⟩
  ·exact ⟨A,c,h⟩
  ·exact ⟨_,c,h⟩
 have hyv:∃ d c,a.eval y=.slice d m c:=by
  rcases hv' with ⟨rfl,A,c,h⟩|⟨k,len,cap,c,_,h⟩
  ·exact ⟨A,c,h⟩
  ·exact ⟨_,c,h⟩
 by_cases h0:Nat.min m n=0
 ·obtain ⟨d,c,hxv⟩:=hxv
  obtain ⟨A,c',hyv⟩:=hyv
  have hmm:min m n=0:=h0
  have hmi:min (m:Int) (n:Int)=0:=by omega
  have hrun:=run_copy_none (P:=P) w T T o.type E d A n c m c' hu hs1 h0
  rw [← hxv,← hyv] at hrun
  have hcp:pcp xs i j (min m n)=xs:=by unfold pcp;rw [hmm];simp
  have hst:s.st.set b (some (.row true ch E 1 xs))=s.st:=by
   apply List.ext_getElem?
   intro j
   rw [List.getElem?_set]
   split
   ·rename_i e;subst e;rw [if_pos (List.getElem?_eq_some_iff.1 hb).1,hb]
   ·rfl
  rw [hcp,hst,hmi] at hk
  exact ⟨_,w,η,J,s,[.c (.pv (.int .i64 0))],hrun0 _ _ hrun,hr,by simpa using ht,(show Rd w J (.int .i64 0) (.int .i64 0) from .int _ _),hk⟩
 ·have hmm:¬ min m n=0:=h0
  rcases hv with ⟨rfl,_⟩|⟨k,len,cap,c,hf0,hev⟩
  ·omega
  rcases hv' with ⟨rfl,_⟩|⟨k1,len1,cap1,c1,hf1,hev'⟩
  ·omega
  obtain ⟨hx0,⟨q,_⟩|⟨us',k2,cap2,q0,qc,q1,q2,q3⟩⟩:=hr.ok.obj b _ hb
  ·subst q;simp at hin;omega
  rw [q0] at hf0 hf1
  injection hf0 with e1 e2 e3;injection e1 with e1;injection e1 with e1;subst e1;subst e2;subst e3
  injection hf1 with e1 e2 e3;injection e1 with e1;injection e1 with e1;subst e1;subst e2;subst e3
  rcases q1.2 with ⟨q,_⟩|⟨g,c',cur,q,_,hg,hle,hml,hcs,htake⟩
  ·rw [q0] at q;cases q
  rw [q0] at q;injection q with q _ qq;injection q with q;injection q with q;subst q;subst qq
  generalize hN:min m n=N at hmm hk
  have hul:us'.length=xs.length:=by have:=q1.1;omega
  have hus:us'=cur.toList.take (xs.length*1):=htake.symm
  have hcl:((us'.drop j).take N).length=N:=by rw [List.length_take,List.length_drop];omega
  have hone:∀ u∈(us'.drop j).take N,u.oneCell'=true:=fun u hu2=>by
   obtain ⟨q,hq⟩:=List.mem_iff_getElem?.1 (List.mem_of_mem_drop (List.mem_of_mem_take hu2))
   have hlt:q<xs.flatten.length:=by rw [q2.len];exact (List.getElem?_eq_some_iff.1 hq).1
   exact (q2.at_ q _ u (List.getElem?_eq_getElem hlt) hq).one
  have hcsz:cur.size=cap2:=by omega
  have hrun:=run_copy_row (P:=P) w T T o.type E k2 i n c ⟨k2,j,none⟩ m c1 cur E ((us'.drop j).take N) hu hs1 hg (by rw [hcl,← hN])
   (fun q u hju=>by
    rw [Addr.add_lit]
    rw [List.getElem?_take] at hju
    split at hju
    ·rw [List.getElem?_drop] at hju
     have:=q1.cells (g:=k2) (by rw [q0];rfl) (j+q) u hju
     rwa [Addr.add_lit,Nat.zero_add] at this
    ·cases hju) (by rw [hcl];omega) hone
  rw [Nat.mul_one] at hev hev'
  rw [← hev,← hev',hcl] at hrun
  generalize hnc:(cur.toList.take i++(us'.drop j).take N++cur.toList.drop (i+N))=nl at hrun
  have hown:Own η b k2:=.inr (.inl ⟨_,_,q0,qc⟩)
  have hjk:¬ J k2:=hr.ok.jd b _ k2 hb hown
  have hJw:∀ j,J j→(w.setRow k2 nl.toArray).heap[j]?=w.heap[j]?:=fun j hj=>z8i w k2 j _ (fun e=>hjk (e ▸ hj))
  have hf:∀ x v,BVr η J w x v→BVr η J (w.setRow k2 nl.toArray) (id x) v:=fun x v hx=>BVr.mono (fun _ h=>h) hJw (fun _ h _=>⟨h,rfl⟩) hx
  have hmi:min (m:Int) (n:Int)=(N:Int):=by omega
  rw [hmi] at hk
  refine ⟨_,w.setRow k2 nl.toArray,η,J,⟨s.n,s.m,z5b id s.env,(z99 id s.st).set b (some (.row true ch E 1 (pcp xs i j N)))⟩,[.c (.pv (.int .i64 (N:Int)))],hrun0 _ _ hrun,?_,by simpa using ht,(show Rd _ J (.int .i64 (N:Int)) (.int .i64 (N:Int)) from .int _ _),by rw [z7x,zf7];exact hk⟩
  have hpl:(pcp xs i j N).length=xs.length:=z00m (by omega) (by omega)
  refine hr.turn (o:=.row true ch E 1 xs) ⟨hb,rfl,fun _ h=>h,fun _ _=>rfl,fun _ _=>rfl,fun _ h=>h,rfl,rfl,rfl,by simp,fun j hj hn=>z8i w k2 j _ (fun e=>hn (e ▸ hown)),hf,fun o' ho'=>?_,fun o' j ho' hj=>⟨.inr hj,fun hJ=>hr.ok.jd b _ j hb hj hJ⟩,fun j hj=>.inl hj⟩
  injection ho' with ho'
  subst ho'
  have hlc:cur.toList.length=cap2:=by simp [hcsz]
  have hnl:nl.length=cap2:=by
   rw [← hnc];simp only [List.length_append,List.length_take,List.length_drop,hul,hlc];omega
  refine ⟨⟨hx0,.inr ⟨pcp us' i j N,k2,cap2,by rw [hpl];exact q0,qc,⟨?_,.inr ⟨k2,cap2,nl.toArray,by rw [hpl,q0],Nat.zero_le _,zhi w k2 _ cur E hg,by rw [hpl];exact hle,hml,by simp [hnl],?_⟩⟩,?_,?_⟩⟩,rfl,fun h=>⟨h,rfl⟩⟩
  ·rw [hpl,z00m (by omega) (by omega),hul,Nat.mul_one]
  ·rw [hpl]
   show nl.take (xs.length*1)=_
   rw [← hnc]
   unfold pcp
   rw [Nat.mul_one] at hus ⊢
   apply List.ext_getElem?
   intro q
   simp only [List.getElem?_append,List.length_append,List.length_take,List.length_drop,List.getElem?_take,List.getElem?_drop,hul,hlc]
   have m1:min i cap2=i:=by omega
   have m2:min i xs.length=i:=by omega
   have m3:min N (xs.length - j)=N:=by omega
   rw [m1,m2,m3]
   have eus:∀ z,z<xs.length→us'[z]?=cur.toList[z]?:=fun z hz=>by rw [hus,List.getElem?_take,if_pos hz]
   by_cases c0:q<xs.length
   ·by_cases c1:q<i
    ·have c2:q<i+N:=by omega
     simp only [c0,c1,c2,if_true];exact (eus q c0).symm
    ·by_cases c2:q<i+N
     ·simp only [c0,c1,c2,if_true,if_false]
     ·have e5:i+N+(q - (i+N))=q:=by omega
      simp only [c0,c2,e5,if_true,if_false];exact (eus q c0).symm
   ·have c2:¬ q<i+N:=by omega
    have e5:i+N+(q - (i+N))=q:=by omega
    simp only [c0,c2,e5,if_false]
    rw [List.getElem?_eq_none (by omega)]
  ·have hfl:(pcp xs i j N).flatten=pcp xs.flatten i j N:=by
    have hd1:∀ y∈xs.drop j,y.length=1:=fun y hy=>q3 y (List.mem_of_mem_drop hy)
    unfold pcp
    rw [List.flatten_append,List.flatten_append,zqg q3,zqg hd1,zmh q3,zmh q3]
   rw [hfl]
   have hR:∀ p v,Rd w J p v→Rd (w.setRow k2 nl.toArray) J p v:=fun p v h=>Rd.mono (fun _ h=>h) hJw h
   exact (((q2.take _).append ((q2.drop _).take _)).append (q2.drop _)).mono hR
  ·intro x hx
   unfold pcp at hx
   rcases List.mem_append.1 hx with hx|hx
   ·rcases List.mem_append.1 hx with hx|hx
    ·exact q3 x (List.mem_of_mem_take hx)
    ·exact q3 x (List.mem_of_mem_drop (List.mem_of_mem_take hx))
   ·exact q3 x (List.mem_of_mem_drop hx)
end
end Go.Proofs.YtimbigpplbbjaaaGreatDoor.Abs

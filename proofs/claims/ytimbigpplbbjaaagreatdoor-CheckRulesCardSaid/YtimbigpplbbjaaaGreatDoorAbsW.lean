/- Plain laws for the typed functions: numbers in their range, strings by lists, loops. -/
import Derived.Test.YtimbigpplbbjaaaGreatDoorAbsT
import Derived.Laws.Bits64
import Derived.Laws.BitsLemmas
import Derived.RowKit3
import Derived.Carry
import Derived.Lib.LaidTab
import Derived.ChangeArms
import Derived.OpenShut
import Derived.WideShapes
namespace Go.Proofs.YtimbigpplbbjaaaGreatDoor.Abs
open Go Go.RowKit
set_option linter.unusedVariables false
set_option linter.unusedSimpArgs false
theorem w64 {n:Int} (h0:-9223372036854775808≤n) (h1:n≤9223372036854775807):IntKind.i64.wrap n=n:=by rw [IntKind.wrap_i64];omega
theorem sb {α β:Type} (x:α) (f:α→Option β):(some x>>=f)=f x:=rfl
section
variable {P:Program} {H:Type} {enc:TypeId × Value→H} {w:World}
def Old (w:World):Nat→Prop:=fun k=>k<w.heap.size
def Dec (P:Program) (enc:TypeId × Value→H) (w:World) (fuel:Nat) (T:TypeId) {τ:Type} (e:τ→List PV) (ok:τ→Prop):Prop :=
 ∀ cs d ps,DataW.trod enc P w 0 (fun _=>true) true fuel T cs=some (d,ps)→∃ x:τ,ok x∧L2 (Rd w (Old w)) (e x) cs
theorem dec0 {T:TypeId} {τ:Type} {e:τ→List PV} {ok:τ→Prop}:Dec P enc w 0 T e ok:=fun cs d ps h=>by cases h
structure InK (k:IntKind) (n:Int):Prop where
 lo:k.min≤n
 hi:n≤k.max
theorem zy6 {T:TypeId} {k:IntKind} (hu:P.underlying T=some (.int k)) (fuel:Nat):Dec P enc w fuel T (fun n:Int=>[.int k n]) (InK k):=by
 intro cs d ps h
 obtain ⟨n,rfl,_,hw⟩:=DataW.trod_int hu h
 simp only [Lit.wf,Bool.and_eq_true,decide_eq_true_eq] at hw
 exact ⟨n,⟨hw.1,hw.2⟩,L2.cons (.int _ _) L2.nil⟩
theorem z04k {T:TypeId} (hu:P.underlying T=some .string) (fuel:Nat):Dec P enc w fuel T (fun s:ByteArray=>[.str s]) (fun s=>s.size≤maxLen):=by
 intro cs d ps h
 obtain ⟨b,rfl,_,hs⟩:=DataW.trod_string hu h
 exact ⟨b,hs,L2.cons (.str _) L2.nil⟩
theorem z018 {α β:Type} {f:α→Option β} {l:List α} {r:List β} (h:l.mapM f=some r):r.length=l.length∧∀ (i:Nat) (a:α),l[i]?=some a→∃ b,r[i]?=some b∧f a=some b :=
 ⟨Lib.mapM_length h,fun i a ha=>Lib.mapM_at h i a ha⟩
theorem zsk {τ:Type} {n:Nat} {p:Nat→τ→Prop} (h:∀ i,i<n→∃ x,p i x):∃ xs:List τ,xs.length=n∧∀ i x,xs[i]?=some x→p i x:=by
 induction n with
 | zero=>exact ⟨[],rfl,fun i x hx=>by simp at hx⟩
 | succ n ih =>
  obtain ⟨xs,h1,h2⟩:=ih fun i hi=>h i (by omega)
  obtain ⟨y,hy⟩:=h n (by omega)
  refine ⟨xs++[y],by simp [h1],fun i x hx=>?_⟩
  rw [List.getElem?_append] at hx
  split at hx
  ·exact h2 i x hx
  ·rename_i hlt
   cases hk:i - xs.length with
   | zero =>
    rw [hk] at hx
    simp at hx
    subst hx
    have:i=n:=by omega
    subst this;exact hy
   | succ k=>rw [hk] at hx;simp at hx
theorem zy7 {a:Addr} {n:Nat} {cs:List Value} (h:w.cells? 0 a n=some cs):cs.length=n∧∀ (i:Nat) (v:Value),cs[i]?=some v→w.cell? (a.add i)=some v:=by
 unfold World.cells? at h
 rw [if_pos (Nat.zero_le _)] at h
 obtain ⟨h1,h2⟩:=z018 h
 rw [List.length_range] at h1
 refine ⟨h1,fun i v hv=>?_⟩
 have hi:i<n:=by rw [← h1];exact (List.getElem?_eq_some_iff.1 hv).1
 obtain ⟨b,hb,hc⟩:=h2 i i (by rw [List.getElem?_range hi])
 rw [hv] at hb;injection hb with hb;subst hb;exact hc
theorem cell_spot {a:Addr} {v:Value} (h:w.cell? a=some v):a.spot=none∧a.block<w.heap.size:=by
 unfold World.cell? at h
 split at h
 ·rename_i c T fz hb
  split at h
  ·cases h
  ·rename_i hs
   exact ⟨by simpa using hs,(Array.getElem?_eq_some_iff.1 hb).1⟩
 ·cases h
theorem addr_add (bk of i j:Nat):((⟨bk,of,none⟩:Addr).add i).add j=⟨bk,of+(i+j),none⟩:=by
 by_cases h1:i=0 <;> by_cases h2:j=0 <;> simp [Addr.add,h1,h2,Nat.add_assoc]
theorem zy8 {T E:TypeId} {τ:Type} {e:τ→List PV} {ok:τ→Prop} {sz:Nat} (hu:P.underlying T=some (.slice E)) (hsz:P.cellsOf E=sz) (hpos:0<sz) (hlen:∀ x,(e x).length=sz) {fuel:Nat} (hE:Dec P enc w fuel E e ok) :
  Dec P enc w (fuel+1) T (fun l:List τ=>[.sl (l.map e)]) (fun l=>(∀ x∈l,ok x)∧l.length≤maxLen):=by
 intro cs d ps h
 rcases DataW.trod_slice hu h with ⟨rfl,_⟩|⟨a,len,cap,elems,rest,n,hn,rfl,_,_,hl1,hm1,hlen1,hel,_,_⟩
 ·exact ⟨[],⟨fun x hx=>by simp at hx,Nat.zero_le _⟩,L2.cons (.nil none 0) L2.nil⟩
 ·obtain rfl:fuel=n:=by omega
  have each:∀ i,i<len→∃ x:τ,ok x∧∃ ci,w.cells? 0 (a.add (i*sz)) sz=some ci∧L2 (Rd w (Old w)) (e x) ci:=fun i hi=>by
   have hb:=hel i hi
   rw [hsz,List.getElem?_eq_getElem (by omega)] at hb
   cases hci:w.cells? 0 (a.add (i*sz)) sz with
   | none=>rw [hci] at hb;cases hb
   | some ci =>
    rw [hci] at hb
    obtain ⟨x,h1,h2⟩:=hE ci _ _ hb
    exact ⟨x,h1,ci,rfl,h2⟩
  obtain ⟨xs,hxl,hxs⟩:=zsk each
  have hc:True∧xs.length≤cap∧True:=⟨trivial,by omega,trivial⟩
  refine ⟨xs,⟨fun x hx=>?_,by omega⟩,L2.cons ?_ L2.nil⟩
  ·obtain ⟨i,hi⟩:=List.mem_iff_getElem?.1 hx
   exact (hxs i x hi).1
  ·rw [← hxl]
   cases hx0:xs with
   | nil=>exact .nil (some a) cap
   | cons x0 r0 =>
    rw [← hx0]
    have cellOf:∀ (i:Nat) (x:List PV) (j:Nat) (p:PV),(xs.map e)[i]?=some x→x[j]?=some p→∃ v,w.cell? ((a.add (i*sz)).add j)=some v∧Rd w (Old w) p v:=fun i x j p hx hp=>by
     rw [List.getElem?_map] at hx
     cases hi:xs[i]? with
     | none=>rw [hi] at hx;cases hx
     | some y =>
      rw [hi] at hx;injection hx with hx;subst hx
      obtain ⟨_,ci,h1,h2⟩:=hxs i y hi
      obtain ⟨v,hv,hr⟩:=h2.get hp
      exact ⟨v,(zy7 h1).2 j v hv,hr⟩
    have hp0:∃ p,(e x0)[0]?=some p:=⟨(e x0)[0]'(by rw [hlen];exact hpos),List.getElem?_eq_getElem _⟩
    obtain ⟨p0,hp0⟩:=hp0
    obtain ⟨v0,hv0,_⟩:=cellOf 0 (e x0) 0 p0 (by rw [hx0];rfl) hp0
    rw [show (a.add (0*sz)).add 0=a by simp [Addr.add]] at hv0
    obtain ⟨hs,hb⟩:=cell_spot hv0
    have ha:a=⟨a.block,a.off,none⟩:=by cases a;simp at hs;subst hs;rfl
    have hadd:∀ i j,(a.add i).add j=⟨a.block,a.off+(i+j),none⟩:=fun i j=>by
     have:=addr_add a.block a.off i j
     rwa [← ha] at this
    have hres:=Rd.sl (w:=w) (J:=Old w) (xs.map e) sz a.block a.off cap (fun i j=>(w.cell? ⟨a.block,a.off+(i*sz+j),none⟩).getD undef) (by rw [hx0];simp) hb (by simpa using hc.2.1)
     (fun i x hx=>by
      rw [List.getElem?_map] at hx
      cases hi:xs[i]? with
      | none=>rw [hi] at hx;cases hx
      | some y=>rw [hi] at hx;injection hx with hx;subst hx;exact hlen y)
     (fun i x j p hx hp=>by
      obtain ⟨v,hv,hr⟩:=cellOf i x j p hx hp
      rw [hadd] at hv
      rw [hv];rfl)
     (fun i x j p hx hp=>by
      obtain ⟨v,hv,hr⟩:=cellOf i x j p hx hp
      rw [hadd] at hv
      rw [hv];exact hr)
    rw [List.length_map] at hres
    rw [ha];exact hres
def Seg (P:Program) (enc:TypeId × Value→H) (w:World) (fuel N:Nat) (fs:List Field) (off:Nat) {τ:Type} (e:τ→List PV) (ok:τ→Prop):Prop :=
 ∀ cs:List Value,cs.length=N→(∀ f∈fs,∃ y,DataW.trod enc P w 0 (fun _=>true) true fuel f.type ((cs.drop f.offset).take (P.cellsOf f.type))=some y)→∃ x:τ,ok x∧L2 (Rd w (Old w)) (e x) (cs.drop off)
theorem z04l {fuel N off:Nat} (h:N≤off):Seg P enc w fuel N [] off (fun _:Unit=>[]) (fun _=>True):=fun cs hl _=>⟨(),trivial,by rw [List.drop_eq_nil_of_le (by omega)];exact L2.nil⟩
theorem zpo {fuel N off sz:Nat} {f:Field} {fs:List Field} {τ1 τ2:Type} {e1:τ1→List PV} {e2:τ2→List PV} {ok1:τ1→Prop} {ok2:τ2→Prop} (ho:f.offset=off) (hs:P.cellsOf f.type=sz) (h1:Dec P enc w fuel f.type e1 ok1) (h2:Seg P enc w fuel N fs (off+sz) e2 ok2) :
  Seg P enc w fuel N (f::fs) off (fun x:τ1 × τ2=>e1 x.1++e2 x.2) (fun x=>ok1 x.1∧ok2 x.2):=by
 intro cs hl hm
 obtain ⟨b,hf⟩:=hm f List.mem_cons_self
 obtain ⟨x,hx,hxl⟩:=h1 _ b.1 b.2 hf
 obtain ⟨y,hy,hyl⟩:=h2 cs hl fun f' hf'=>hm f' (List.mem_cons_of_mem _ hf')
 refine ⟨(x,y),⟨hx,hy⟩,?_⟩
 rw [ho,hs] at hxl
 have e:cs.drop off=(cs.drop off).take sz++cs.drop (off+sz):=by rw [← List.drop_drop,List.take_append_drop]
 rw [e]
 exact hxl.append hyl
theorem zw5 {T:TypeId} {fs:Array Field} {τ σ:Type} {N fuel:Nat} {e:τ→List PV} {ok:τ→Prop} {e':σ→List PV} {ok':σ→Prop} (g:τ→σ) (hu:P.underlying T=some (.struct fs)) (hN:P.cellsOf T=N) (hs:Seg P enc w fuel N fs.toList 0 e ok) (he:∀ x,e' (g x)=e x) (hok:∀ x,ok x→ok' (g x)) :
  Dec P enc w (fuel+1) T e' ok':=by
 intro cs d ps h
 obtain ⟨xs,n,hn,_,hl,hxl,hat⟩:=DataW.trod_struct hu h
 obtain rfl:fuel=n:=by omega
 rw [hN] at hl
 obtain ⟨x,hx,hxl⟩:=hs cs hl fun f hf=>by
  obtain ⟨i,hi⟩:=List.mem_iff_getElem?.1 hf
  have hi':fs[i]?=some f:=by simpa using hi
  have hlt:i<xs.length:=by
   rw [hxl];exact (Array.getElem?_eq_some_iff.1 hi').1
  exact ⟨xs[i],by rw [hat i f hi',List.getElem?_eq_getElem hlt]⟩
 exact ⟨g x,hok x hx,by rw [he];simpa using hxl⟩
theorem z07a {p:PV} {v:Value} {J:Nat→Prop} {η:Hd} (h:L2 (Rd w J) [p] v.cells.toList) (hv:∀ cs,v≠.agg cs):XVr η J w (.c (.pv p)) v:=by
 have hc:v.cells.toList=[v]:=by
  cases v <;> first|rfl|exact absurd rfl (hv _)
 rw [hc] at h
 obtain ⟨y,ys,hy,hr,_⟩:=h.uncons
 injection hy with hy _
 subst hy;exact hr
theorem z019 {G:Nat→Option (List PV)} {f:FuncId} {args res:List XV} {vs:List Value} (h:zng P G f args res) (hG:Glob G (Old w) w) (hl:L2 (XVr ⟨fun _=>undef,fun _=>False,fun _=>[]⟩ (Old w) w) args vs) :
  Calls P f vs.toArray w fun e w'=>∃ v,e=.returned v∧(∃ η J,Rs η J w' res v)∧Below w.heap.size w w':=by
 have hok:Ok G ⟨fun _=>undef,fun _=>False,fun _=>[]⟩ (Old w) w []:=⟨fun b hb=>hb.elim,fun b hb=>hb,fun b o ho=>by simp at ho,fun b c o o' k ho=>by simp at ho,fun b o k ho=>by simp at ho,hG⟩
 refine (h _ _ w vs hok hl).mono ?_
 rintro e w' ⟨v,η',J',r,st',rfl,⟨rfl,hp,rfl⟩,hR,hok',hex⟩
 exact ⟨v,rfl,⟨η',J',hR⟩,hex.os,hex.tape,hex.output,hex.size,fun k hk=>hex.keep k hk zou⟩
theorem zw6 {G:Nat→Option (List PV)} {f:FuncId} {args:List XV} {vs:List Value} (h:zng P G f args [.c (.pv (.bool true))]) (hG:Glob G (Old w) w) (hl:L2 (XVr ⟨fun _=>undef,fun _=>False,fun _=>[]⟩ (Old w) w) args vs) :
  Calls P f vs.toArray w fun e w'=>e=.returned (.bool true)∧Below w.heap.size w w' :=
 (z019 h hG hl).mono fun e w' ⟨v,he,⟨η,J,hr⟩,hb⟩=>⟨by rw [he,zgo hr],hb⟩
end
section
variable {P:Program} {H:Type} {enc:TypeId × Value→H} {w:World}
theorem zy9 {t E:TypeId} {W:World} {r:Reach} {base:Nat} {v:Value} (ht:P.underlying t=some (.slice E)) (h:Value.okWide P W r base t v):∀ cs,v≠.agg cs:=fun cs e=>by
 subst e
 obtain ⟨a,l,c,hn⟩:=WideShapes.okWide_slice ht h
 cases hn
end
end Go.Proofs.YtimbigpplbbjaaaGreatDoor.Abs

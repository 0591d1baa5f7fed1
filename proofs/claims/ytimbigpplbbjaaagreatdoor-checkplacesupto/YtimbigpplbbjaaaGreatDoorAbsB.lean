/- From a row's data to typed values, with what they weigh. -/
import Derived.Test.YtimbigpplbbjaaaGreatDoorAbsW
import Derived.Test.YtimbigpplbbjaaaGreatDoorRows
namespace Go.Proofs.YtimbigpplbbjaaaGreatDoor.Abs
open Go Go.RowKit
set_option linter.unusedVariables false
set_option linter.unusedSimpArgs false
theorem zue {H:Type} (d:DataW H):1≤Rows.uptoBulk d:=by
 cases d with
 | lit l=>cases l <;> simp [Rows.uptoBulk]
 | _=>simp [Rows.uptoBulk]
section
variable {P:Program} {H:Type} {enc:TypeId × Value→H} {w:World}
def DecB (P:Program) (enc:TypeId × Value→H) (w:World) (fuel:Nat) (T:TypeId) {τ:Type} (e:τ→List PV) (ok:τ→Prop) (m:τ→Nat):Prop :=
 ∀ cs d ps,DataW.trod enc P w 0 (fun _=>true) true fuel T cs=some (d,ps)→∃ x:τ,ok x∧L2 (Rd w (Old w)) (e x) cs∧m x≤Rows.uptoBulk d
theorem zog {T:TypeId} {τ:Type} {e:τ→List PV} {ok:τ→Prop} {m:τ→Nat}:DecB P enc w 0 T e ok m:=fun cs d ps h=>by cases h
theorem zfc {T:TypeId} {k:IntKind} (hu:P.underlying T=some (.int k)) (fuel:Nat):DecB P enc w fuel T (fun n:Int=>[.int k n]) (InK k) (fun _=>1):=by
 intro cs d ps h
 obtain ⟨n,h1,h2⟩:=z04n (P:=P) (enc:=enc) (w:=w) hu fuel cs d ps h
 exact ⟨n,h1,h2,zue d⟩
theorem zbk {T:TypeId} (hu:P.underlying T=some .string) (fuel:Nat):DecB P enc w fuel T (fun s:ByteArray=>[.str s]) (fun s=>s.size≤maxLen) (fun s=>s.size+1):=by
 intro cs d ps h
 obtain ⟨b,rfl,hd,hs⟩:=DataW.trod_string hu h
 refine ⟨b,hs,L2.cons (.str _) L2.nil,?_⟩
 injection hd with hd _
 rw [hd]
 simp only [Rows.uptoBulk]
 rw [Array.length_toList];exact Nat.le_refl _
def sumM {τ:Type} (m:τ→Nat):List τ→Nat
 | []=>0
 | x::r=>m x+sumM m r
theorem z033 {τ:Type} {m:τ→Nat}:∀ {xs:List τ} {ds:List (DataW H)},xs.length=ds.length→(∀ (i:Nat) x d,xs[i]?=some x→ds[i]?=some d→m x≤Rows.uptoBulk d)→sumM m xs≤Rows.uptoBulkAll ds
 | [],ds,_,_=>by simp [sumM]
 | x::r,[],h,_=>by simp at h
 | x::r,d::ds,h,hp=>by
  have h1:=hp 0 x d rfl rfl
  have h2:=z033 (xs:=r) (ds:=ds) (by simpa using h) fun i y d hy hd=>hp (i+1) y d (by simpa using hy) (by simpa using hd)
  simp only [sumM,Rows.uptoBulkAll];omega
theorem zwa {T E:TypeId} {τ:Type} {e:τ→List PV} {ok:τ→Prop} {m:τ→Nat} {sz:Nat} (hu:P.underlying T=some (.slice E)) (hsz:P.cellsOf E=sz) (hpos:0<sz) (hlen:∀ x,(e x).length=sz) {fuel:Nat} (hE:DecB P enc w fuel E e ok m) :
  DecB P enc w (fuel+1) T (fun l:List τ=>[.sl (l.map e)]) (fun l=>(∀ x∈l,ok x)∧l.length≤maxLen) (fun l=>sumM m l+1):=by
 intro cs d ps h
 rcases DataW.trod_slice hu h with ⟨rfl,hdd⟩|⟨a,len,cap,elems,rest,n,hn,rfl,hdd,_,hl1,hm1,hlen1,hel,_,_⟩
 ·exact ⟨[],⟨fun x hx=>by simp at hx,Nat.zero_le _⟩,L2.cons (.nil none 0) L2.nil,by simp only [sumM];exact zue d⟩
 ·obtain rfl:fuel=n:=by omega
  have each:∀ i,i<len→∃ x:τ,ok x∧(∃ ci,w.cells? 0 (a.add (i*sz)) sz=some ci∧L2 (Rd w (Old w)) (e x) ci)∧∀ q,elems[i]?=some q→m x≤Rows.uptoBulk q.1:=fun i hi=>by
   have hb:=hel i hi
   rw [hsz,List.getElem?_eq_getElem (by omega)] at hb
   cases hci:w.cells? 0 (a.add (i*sz)) sz with
   | none=>rw [hci] at hb;cases hb
   | some ci =>
    rw [hci] at hb
    obtain ⟨x,h1,h2,h3⟩:=hE ci _ _ hb
    refine ⟨x,h1,⟨ci,rfl,h2⟩,fun q hq=>?_⟩
    rw [List.getElem?_eq_getElem (by omega)] at hq
    injection hq with hq;rw [← hq];exact h3
  obtain ⟨xs,hxl,hxs⟩:=zsk each
  have hc:True∧xs.length≤cap∧True:=⟨trivial,by omega,trivial⟩
  refine ⟨xs,⟨fun x hx=>?_,by omega⟩,L2.cons ?_ L2.nil,?_⟩
  ·obtain ⟨i,hi⟩:=List.mem_iff_getElem?.1 hx
   exact (hxs i x hi).1
  ·rw [← hxl]
   cases hx0:xs with
   | nil=>exact .nil (some a) cap
   | cons x0 r0 =>
    rw [← hx0]
    have cellOf:∀ (i:Nat) (x:List PV) (j:Nat) (p:PV),(xs.map e)[i]?=some x→x[j]?=some p→∃ v,w.cell? ((a.add (i*sz)).add j)=some v∧Rd w (Old w) p v:=fun i x j p hx hp=>by
     rw [List.getElem?_map] at hx
     cases hi:xs[i]? with
     | none=>rw [hi] at hx;cases hx
     | some y =>
      rw [hi] at hx;injection hx with hx;subst hx
      obtain ⟨_,⟨ci,h1,h2⟩,_⟩:=hxs i y hi
      obtain ⟨v,hv,hr⟩:=h2.get hp
      exact ⟨v,(zxx h1).2 j v hv,hr⟩
    have hp0:∃ p,(e x0)[0]?=some p:=⟨(e x0)[0]'(by rw [hlen];exact hpos),List.getElem?_eq_getElem _⟩
    obtain ⟨p0,hp0⟩:=hp0
    obtain ⟨v0,hv0,_⟩:=cellOf 0 (e x0) 0 p0 (by rw [hx0];rfl) hp0
    rw [show (a.add (0*sz)).add 0=a by simp [Addr.add]] at hv0
    obtain ⟨hs,hb⟩:=cell_spot hv0
    have ha:a=⟨a.block,a.off,none⟩:=by cases a;simp at hs;subst hs;rfl
    have hadd:∀ i j,(a.add i).add j=⟨a.block,a.off+(i+j),none⟩:=fun i j=>by
     have:=addr_add a.block a.off i j
     rwa [← ha] at this
    have hres:=Rd.sl (w:=w) (J:=Old w) (xs.map e) sz a.block a.off cap (fun i j=>(w.cell? ⟨a.block,a.off+(i*sz+j),none⟩).getD undef) (by rw [hx0];simp) hb (by simpa using hc.2.1)
     (fun i x hx=>by
      rw [List.getElem?_map] at hx
      cases hi:xs[i]? with
      | none=>rw [hi] at hx;cases hx
      | some y=>rw [hi] at hx;injection hx with hx;subst hx;exact hlen y)
     (fun i x j p hx hp=>by
      obtain ⟨v,hv,hr⟩:=cellOf i x j p hx hp
      rw [hadd] at hv
      rw [hv];rfl)
     (fun i x j p hx hp=>by
      obtain ⟨v,hv,hr⟩:=cellOf i x j p hx hp
      rw [hadd] at hv
      rw [hv];exact hr)
    rw [List.length_map] at hres
    rw [ha];exact hres
  ·injection hdd with hdd _
   rw [hdd]
   have:=z033 (m:=m) (xs:=xs) (ds:=elems.map (·.1)) (by rw [List.length_map];omega) fun i x d hx hd=>by
    rw [List.getElem?_map] at hd
    cases hq:elems[i]? with
    | none=>rw [hq] at hd;cases hd
    | some q=>rw [hq] at hd;injection hd with hd;rw [← hd];exact (hxs i x hx).2.2 q hq
   simp only [Rows.uptoBulk];omega
def SegB (P:Program) (enc:TypeId × Value→H) (w:World) (fuel N:Nat) (fs:List Field) (off:Nat) {τ:Type} (e:τ→List PV) (ok:τ→Prop) (m:τ→Nat):Prop :=
 ∀ (cs:List Value) (ds:List (DataW H)),cs.length=N→fs.length=ds.length→(∀ (i:Nat) f d,fs[i]?=some f→ds[i]?=some d→∃ p,DataW.trod enc P w 0 (fun _=>true) true fuel f.type ((cs.drop f.offset).take (P.cellsOf f.type))=some (d,p))→∃ x:τ,ok x∧L2 (Rd w (Old w)) (e x) (cs.drop off)∧m x≤Rows.uptoBulkAll ds
theorem zea {fuel N off:Nat} (h:N≤off):SegB P enc w fuel N [] off (fun _:Unit=>[]) (fun _=>True) (fun _=>0):=fun cs ds hl _ _=>⟨(),trivial,by rw [List.drop_eq_nil_of_le (by omega)];exact L2.nil,Nat.zero_le _⟩
theorem z3m {fuel N off sz:Nat} {f:Field} {fs:List Field} {τ1 τ2:Type} {e1:τ1→List PV} {e2:τ2→List PV} {ok1:τ1→Prop} {ok2:τ2→Prop} {m1:τ1→Nat} {m2:τ2→Nat} (ho:f.offset=off) (hs:P.cellsOf f.type=sz) (h1:DecB P enc w fuel f.type e1 ok1 m1) (h2:SegB P enc w fuel N fs (off+sz) e2 ok2 m2) :
  SegB P enc w fuel N (f::fs) off (fun x:τ1 × τ2=>e1 x.1++e2 x.2) (fun x=>ok1 x.1∧ok2 x.2) (fun x=>m1 x.1+m2 x.2):=by
 intro cs ds hl hle hm
 match ds,hle with
 | d::ds,hle =>
  obtain ⟨b,hf⟩:=hm 0 f d rfl rfl
  obtain ⟨x,hx,hxl,hxm⟩:=h1 _ _ _ hf
  obtain ⟨y,hy,hyl,hym⟩:=h2 cs ds hl (by simpa using hle) fun i f' d' hf' hd'=>hm (i+1) f' d' (by simpa using hf') (by simpa using hd')
  refine ⟨(x,y),⟨hx,hy⟩,?_,by simp only [Rows.uptoBulkAll];omega⟩
  rw [ho,hs] at hxl
  have e:cs.drop off=(cs.drop off).take sz++cs.drop (off+sz):=by rw [← List.drop_drop,List.take_append_drop]
  rw [e]
  exact hxl.append hyl
theorem z9n {T:TypeId} {fs:Array Field} {τ σ:Type} {N fuel:Nat} {e:τ→List PV} {ok:τ→Prop} {m:τ→Nat} {e':σ→List PV} {ok':σ→Prop} {m':σ→Nat} (g:τ→σ) (hu:P.underlying T=some (.struct fs)) (hN:P.cellsOf T=N) (hs:SegB P enc w fuel N fs.toList 0 e ok m) (he:∀ x,e' (g x)=e x) (hok:∀ x,ok x→ok' (g x)) (hm:∀ x,m' (g x)≤m x+1) :
  DecB P enc w (fuel+1) T e' ok' m':=by
 intro cs d ps h
 obtain ⟨xs,n,hn,hd,hl,hxl,hat⟩:=DataW.trod_struct hu h
 obtain rfl:fuel=n:=by omega
 rw [hN] at hl
 obtain ⟨x,hx,hxl2,hxm⟩:=hs cs (xs.map (·.1)) hl (by rw [List.length_map,hxl];simp) fun i f d hf hd=>by
  have hi':fs[i]?=some f:=by simpa using hf
  rw [List.getElem?_map] at hd
  cases hq:xs[i]? with
  | none=>rw [hq] at hd;cases hd
  | some q =>
   rw [hq] at hd;injection hd with hd
   refine ⟨q.2,?_⟩
   rw [hat i f hi',hq,← hd]
 refine ⟨g x,hok x hx,by rw [he];simpa using hxl2,?_⟩
 injection hd with hd _
 rw [hd]
 have:=hm x
 simp only [Rows.uptoBulk];omega
end
end Go.Proofs.YtimbigpplbbjaaaGreatDoor.Abs

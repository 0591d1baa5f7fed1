/- Abstract states of the machine: arrays at a place, bytes as a string. -/
import Derived.Test.YtimbigpplbbjaaaGreatDoorAbsN
import Derived.Laws.BytesArg
namespace Go.Proofs.YtimbigpplbbjaaaGreatDoor.Abs
open Go Go.RowKit
set_option linter.unusedVariables false
set_option linter.unusedSimpArgs false
section
variable {P:Program} {G:Nat→Option (List PV)} {o:Oper} {n m:Nat} {env:List (Nat × List XV)} {st:z0q}
variable {α:Type} {e:α→List PV}
theorem z073 {η:Hd} {J:Nat→Prop} {w:World} {a b:List PV} {v:Value} (h:BVr η J w (.ep (a++b)) v):BVr η J w (.ep a) v:=by
 obtain ⟨k,off,us,hJ,hv,hl,hc⟩:=h
 have h1:=hl.take a.length
 rw [List.take_left] at h1
 refine ⟨k,off,us.take a.length,hJ,hv,h1,fun j u hu=>hc j u ?_⟩
 rw [List.getElem?_take] at hu
 split at hu
 ·exact hu
 ·cases hu
theorem zxy {S D E:TypeId} {x:Operand} {xv:XV} {L:List Int} {f:Int→List PV} (hf:∀ y,f y=[.int .u8 y]) (ho:o.op=.convert S D x) (hs:P.underlying S=some (.slice E)) (he:P.underlying E=some (.int .u8)) (hd:P.underlying D=some .string) (hx:val G env x=some xv) (hsrc:Src ⟨n,m,env,st⟩ xv (L.map f)) :
  LtT P G o ⟨n,m,env,st⟩ [.c (.pv (.str (strOfNums L)))]:=by
 intro E0 η J a w hr
 have hlen1:∀ z∈L.map f,z.length=1:=fun z hz=>by
  obtain ⟨q,_,rfl⟩:=List.mem_map.1 hz
  rw [hf];rfl
 obtain ⟨A,c,us,hv,hc,hl,hul,hcell⟩:=hsrc.reads hr (hr.val hx) (sz:=1) hlen1
 have hflat:(L.map f).flatten=L.map (PV.int .u8):=by
  clear hul hcell hc hv hl hsrc hlen1
  induction L with
  | nil=>rfl
  | cons y L ih=>rw [List.map_cons,List.flatten_cons,ih,hf];rfl
 rw [hflat] at hl
 refine ⟨.string (strOfNums L),?_,.str _⟩
 simp only [execOp,ho,hv,List.length_map]
 by_cases h0:L=[]
 ·subst h0
  cases A with
  | none=>rw [show ([]:List Int).length=0 from rfl,Sem.run_bind,run_convert_bytes_nil w S E hs he _ _ D hd];rfl
  | some b =>
   have e1:(convert S D (.slice (some b) 0 c)).run P w=.ok (.string (strOfNums [])) w:=by
    rw [run_convert_bytes_string w S D E _ 0 c hs he hd]
    simp [Conv.bytesToString,loadCells,loadCellsFrom,strOfNums]
    rfl
   rw [show ([]:List Int).length=0 from rfl,Sem.run_bind,e1];rfl
 ·obtain ⟨k,off,rfl,hcl⟩:=hcell (by simpa using h0)
  have e1:=run_convert_bytes_arg (P:=P) w S E hs he k off L.length c L rfl (fun i hi=>by
   have hi2:(L.map (PV.int .u8))[i]?=some (.int .u8 L[i]):=by rw [List.getElem?_map,List.getElem?_eq_getElem hi];rfl
   obtain ⟨u,hu,hR⟩:=hl.get hi2
   have:=hcl i u hu
   rw [z5i hR] at this
   rw [this,List.getD_eq_getElem?_getD,List.getElem?_eq_getElem hi];rfl) D hd
  rw [Sem.run_bind,e1];rfl
end
end Go.Proofs.YtimbigpplbbjaaaGreatDoor.Abs

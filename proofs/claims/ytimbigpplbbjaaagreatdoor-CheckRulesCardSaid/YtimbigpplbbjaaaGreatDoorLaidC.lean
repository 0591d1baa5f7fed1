/- What the listed variables give the walks of ast: the tables and the words lie as the program's text lays them, strconv's two error variables hold interface values. -/
import Derived.Test.YtimbigpplbbjaaaGreatDoorHandA
import Derived.Test.YtimbigpplbbjaaaGreatDoorAbsW
import Derived.Test.YtimbigpplbbjaaaGreatDoorRows
import Derived.Lay
import Derived.LaidMore
import Derived.ProofKit
import Derived.OpenShut
import Derived.Stop.LaidErr
namespace Go.Proofs.YtimbigpplbbjaaaGreatDoor.LaidA
open Go.ChangeShapes Go.WideShapes Go.RowKit Go.Proofs.YtimbigpplbbjaaaGreatDoor.Abs
set_option linter.unusedVariables false
theorem own:ownKnob Tryz.prog.godebug=none:=by kernel_rfl
def laidL:List (String × DataW Unit):=[("math/bits.deBruijn32tab", Rows.laid_math_bits_deBruijn32tab),("math/bits.deBruijn64tab", Rows.laid_math_bits_deBruijn64tab),("internal/strconv.uint64pow10", Rows.laid_internal_strconv_uint64pow10),("unicode/utf8.acceptRanges", Rows.laid_unicode_utf8_acceptRanges),("strconv.ErrRange", Rows.laid_strconv_ErrRange),("strconv.ErrSyntax", Rows.laid_strconv_ErrSyntax),("jetsam/ast.signs", Rows.laid_jetsam_ast_signs),("jetsam/ast.compared", Rows.laid_jetsam_ast_compared),("jetsam/ast.kinds", Rows.laid_jetsam_ast_kinds),("unicode/utf8.first", Rows.laid_unicode_utf8_first)]
theorem zh2 {H:Type} {enc:TypeId × Value→H} {P:Program} {w:World} {base:Nat} {sp:Nat→Bool} {held:Bool} {fuel:Nat} {t e:TypeId} {n:Nat} {cs:List Value} {p:List MemPlace} (zs:List (List UInt8))
  (ht:P.underlying t=some (.array n e)) (he:P.underlying e=some .string) (hce:P.cellsOf e=1) (hct:P.cellsOf t=n)
  (h:DataW.trod enc P w base sp held fuel t cs=some (.agg (zs.map fun z=>.lit (.string z)),p)):cs=zs.map fun z=>Value.string ⟨z.toArray⟩:=by
 obtain ⟨xs,m,_,hx,hl,hxl,hat⟩:=DataW.trod_array ht h
 have hm:zs.map (fun z=>(DataW.lit (.string z):DataW H))=xs.map (·.1):=by
  have:=congrArg Prod.fst hx
  simpa using this
 have hzl:zs.length=n:=by
  have:=congrArg List.length hm
  simp at this;omega
 rw [hct] at hl
 refine List.ext_getElem? fun i=>?_
 by_cases hi:i<n
 ·have h1:=hat i hi
  rw [hce,List.getElem?_eq_getElem (by omega)] at h1
  obtain ⟨s,h2,h3,_⟩:=DataW.trod_string he h1
  have h4:cs[i]?=some (.string s):=by
   have:((cs.drop (i*1)).take 1)[0]?=some (.string s):=by rw [h2];rfl
   rw [List.getElem?_take_of_lt (by omega),List.getElem?_drop] at this
   simpa using this
  have h5:(zs.map (fun z=>(DataW.lit (.string z):DataW H)))[i]?=some (.lit (.string s.data.toList)):=by
   rw [hm,List.getElem?_map,List.getElem?_eq_getElem (by omega),h3];rfl
  rw [List.getElem?_map] at h5 ⊢
  cases hz:zs[i]? with
  | none=>rw [hz] at h5;cases h5
  | some z =>
   rw [hz] at h5
   simp only [Option.map_some,Option.some.injEq,DataW.lit.injEq,Lit.string.injEq] at h5
   rw [h4,h5];rfl
 ·rw [List.getElem?_eq_none (by omega),List.getElem?_eq_none (by simp;omega)]
def z07t:List (List UInt8):=[[43],[45],[42],[47],[37]]
def z07u:List (List UInt8):=[[61,61],[33,61],[60],[60,61],[62],[62,61]]
def z07v:List (List UInt8):=[[98,108,111,99,107],[100,114,111,112],[108,111,115,115,121]]
theorem zio {P:Program} {W:World} {name:String} {g:Nat} {cs:Array Value} (hg:P.globalNamed name=some g) (h:W.var? P name=some cs):g<W.heap.size∧∃ T fz,W.heap[g]?=some (.cells cs T fz):=by
 unfold World.var? at h
 rw [hg] at h
 simp only [Option.bind_some] at h
 split at h
 ·rename_i c T fz hb
  injection h with h;subst h
  exact ⟨(Array.getElem?_eq_some_iff.1 hb).1,T,fz,hb⟩
 ·cases h
theorem zru {α:Type} {w:World} {J:Nat→Prop} (f:α→PV) (g:α→Value) (h:∀ a,Rd w J (f a) (g a)):∀ l:List α,L2 (Rd w J) (l.map f) (l.map g)
 | []=>L2.nil
 | a::l=>L2.cons (h a) (zru f g h l)
theorem gES:Tryz.prog.globalNamed "strconv.ErrSyntax" = some 3:=by kernel_rfl
theorem gEST:(Tryz.prog.globals[3]?).map (·.type)=some 277:=by kernel_rfl
theorem gER:Tryz.prog.globalNamed "strconv.ErrRange" = some 4:=by kernel_rfl
theorem gERT:(Tryz.prog.globals[4]?).map (·.type)=some 277:=by kernel_rfl
theorem z037:Tryz.prog.cellsOf 339=1:=by kernel_rfl
theorem z038:Tryz.prog.cellsOf 9=1:=by kernel_rfl
theorem star : "*" ++ "errors.errorString" = "*errors.errorString" := by decide
theorem rowE (u:TypeId) (h:Tryz.prog.typeName? 3 u=some "*errors.errorString"):u=337 :=
 typeName_ptr_named (nm := "errors.errorString") (by rw [star];kernel_rfl) (by kernel_rfl) (by decide) u (by rw [star];exact h)
theorem glob_of {W:World} (h:laidMetH Tryz.prog laidL W):∃ X:EV,Glob (GX X) (Old W) W:=by
 rw [MakeChecks.laidMetH_plain _ _ _ (by kernel_rfl)] at h
 have hP:=h.tail.tail
 have hL:=h.tail.tail.tail.tail
 have hS:=hL.tail.tail
 have hC:=hL.tail.tail.tail
 have hK:=hL.tail.tail.tail.tail
 have tP:Lib.TabIs Tryz.prog W "internal/strconv.uint64pow10" .u64 Lib.pow10Tab:=Lib.tabIs_of_head (g:=8) (by kernel_rfl) (by kernel_rfl) Tryz.underlying341 Tryz.underlying35 (by kernel_rfl) (by kernel_rfl) hP
 obtain ⟨a1,s1,hv1,-,-,-⟩:=laid_sentinel hL gER gERT Tryz.underlying277 rowE Tryz.underlying337 Tryz.underlying339 rfl rfl Tryz.underlying9 z037 z038
 obtain ⟨a0,s0,hv0,-,-,-⟩:=laid_sentinel hL.tail gES gEST Tryz.underlying277 rowE Tryz.underlying337 Tryz.underlying339 rfl rfl Tryz.underlying9 z037 z038
 obtain ⟨t1,p1,hv0⟩:∃ te pe,W.var? Tryz.prog "strconv.ErrSyntax" = some #[.iface te pe]:=⟨_,_,hv0⟩
 obtain ⟨t2,p2,hv1⟩:∃ te pe,W.var? Tryz.prog "strconv.ErrRange" = some #[.iface te pe]:=⟨_,_,hv1⟩
 refine ⟨⟨t1,p1,t2,p2⟩,?_⟩
 intro g cs hg
 match g,hg with
 | 0,hg =>
  injection hg with hg
  subst hg
  obtain ⟨ps,⟨g',t',us,fuel,p,q,hg',ht',hvar,hd,_,_⟩,_⟩:=hK
  have e1:Tryz.prog.globalNamed "jetsam/ast.kinds" = some 0:=by kernel_rfl
  have e2:(Tryz.prog.globals[0]?).map (·.type)=some 267:=by kernel_rfl
  obtain rfl:=Option.some.inj (e1.symm.trans hg')
  obtain rfl:=Option.some.inj (e2.symm.trans ht')
  obtain ⟨hb,T,fz,hh⟩:=zio e1 hvar
  have hus:=zh2 z07v Tryz.underlying267 Tryz.underlying9 (by kernel_rfl) (by kernel_rfl) hd
  refine ⟨hb,us.toList,T,fz,?_,by simpa using hh⟩
  rw [hus]
  exact zru (fun z=>PV.str ⟨z.toArray⟩) (fun z=>Value.string ⟨z.toArray⟩) (fun z=>Rd.str _) z07v
 | 1,hg =>
  injection hg with hg
  subst hg
  obtain ⟨ps,⟨g',t',us,fuel,p,q,hg',ht',hvar,hd,_,_⟩,_⟩:=hS
  have e1:Tryz.prog.globalNamed "jetsam/ast.signs" = some 1:=by kernel_rfl
  have e2:(Tryz.prog.globals[1]?).map (·.type)=some 317:=by kernel_rfl
  obtain rfl:=Option.some.inj (e1.symm.trans hg')
  obtain rfl:=Option.some.inj (e2.symm.trans ht')
  obtain ⟨hb,T,fz,hh⟩:=zio e1 hvar
  have hus:=zh2 z07t Tryz.underlying317 Tryz.underlying9 (by kernel_rfl) (by kernel_rfl) hd
  refine ⟨hb,us.toList,T,fz,?_,by simpa using hh⟩
  rw [hus]
  exact zru (fun z=>PV.str ⟨z.toArray⟩) (fun z=>Value.string ⟨z.toArray⟩) (fun z=>Rd.str _) z07t
 | 2,hg =>
  injection hg with hg
  subst hg
  obtain ⟨ps,⟨g',t',us,fuel,p,q,hg',ht',hvar,hd,_,_⟩,_⟩:=hC
  have e1:Tryz.prog.globalNamed "jetsam/ast.compared" = some 2:=by kernel_rfl
  have e2:(Tryz.prog.globals[2]?).map (·.type)=some 318:=by kernel_rfl
  obtain rfl:=Option.some.inj (e1.symm.trans hg')
  obtain rfl:=Option.some.inj (e2.symm.trans ht')
  obtain ⟨hb,T,fz,hh⟩:=zio e1 hvar
  have hus:=zh2 z07u Tryz.underlying318 Tryz.underlying9 (by kernel_rfl) (by kernel_rfl) hd
  refine ⟨hb,us.toList,T,fz,?_,by simpa using hh⟩
  rw [hus]
  exact zru (fun z=>PV.str ⟨z.toArray⟩) (fun z=>Value.string ⟨z.toArray⟩) (fun z=>Rd.str _) z07u
 | 3,hg =>
  injection hg with hg
  subst hg
  obtain ⟨hb,T,fz,hh⟩:=zio gES hv0
  exact ⟨hb,[.iface t1 p1],T,fz,L2.cons (Rd.cst _ rfl) L2.nil,by simpa using hh⟩
 | 4,hg =>
  injection hg with hg
  subst hg
  obtain ⟨hb,T,fz,hh⟩:=zio gER hv1
  exact ⟨hb,[.iface t2 p2],T,fz,L2.cons (Rd.cst _ rfl) L2.nil,by simpa using hh⟩
 | 8,hg =>
  injection hg with hg
  subst hg
  obtain ⟨hb,T,fz,hh⟩:=zio (g:=8) (by kernel_rfl) tP
  exact ⟨hb,_,T,fz,zru (fun z=>PV.int .u64 z) (fun z=>Value.int .u64 z) (fun z=>Rd.int _ _) Lib.pow10Tab,by simpa using hh⟩
 | 5,hg=>cases hg
 | 6,hg=>cases hg
 | 7,hg=>cases hg
 | _+9,hg=>cases hg
theorem met (os:Os) (args:Array Value):laidMetH Tryz.prog laidL ((World.laidAll Tryz.prog os laidL).forCall (fun _ _=>0) ⟨#[],args,[]⟩).memory:=by
 rw [MakeChecks.laidMetH_plain _ _ _ (by kernel_rfl)];exact laidMet_laidAll _ (by kernel_rfl) (by kernel_rfl)
end Go.Proofs.YtimbigpplbbjaaaGreatDoor.LaidA

/- What the listed variables give the walks of parsing: the powers of ten lie as the program's text lays them, strconv's two error variables hold interface values. -/
import Derived.Test.YtokjbpmjdcbogaaGreatDoorHandA
import Derived.Test.YtokjbpmjdcbogaaGreatDoorAbsV
import Derived.Test.YtokjbpmjdcbogaaGreatDoorRows
import Derived.Lay
import Derived.LaidMore
import Derived.ProofKit
import Derived.OpenShut
import Derived.Stop.LaidErr
namespace Go.Proofs.YtokjbpmjdcbogaaGreatDoor.LaidA
open Go.ChangeShapes Go.WideShapes Go.RowKit Go.Proofs.YtokjbpmjdcbogaaGreatDoor.Abs
set_option linter.unusedVariables false
theorem own:ownKnob Tryz.prog.godebug=none:=by kernel_rfl
def laidL:List (String × DataW Unit):=[("math/bits.deBruijn32tab", Rows.laid_math_bits_deBruijn32tab),("math/bits.deBruijn64tab", Rows.laid_math_bits_deBruijn64tab),("internal/strconv.uint64pow10", Rows.laid_internal_strconv_uint64pow10),("unicode/utf8.acceptRanges", Rows.laid_unicode_utf8_acceptRanges),("strconv.ErrRange", Rows.laid_strconv_ErrRange),("strconv.ErrSyntax", Rows.laid_strconv_ErrSyntax),("unicode/utf8.first", Rows.laid_unicode_utf8_first)]
theorem zq2 {P:Program} {W:World} {name:String} {g:Nat} {cs:Array Value} (hg:P.globalNamed name=some g) (h:W.var? P name=some cs):g<W.heap.size∧∃ T fz,W.heap[g]?=some (.cells cs T fz):=by
 unfold World.var? at h
 rw [hg] at h
 simp only [Option.bind_some] at h
 split at h
 ·rename_i c T fz hb
  injection h with h;subst h
  exact ⟨(Array.getElem?_eq_some_iff.1 hb).1,T,fz,hb⟩
 ·cases h
theorem z05c {α:Type} {w:World} {J:Nat→Prop} (f:α→PV) (g:α→Value) (h:∀ a,Rd w J (f a) (g a)):∀ l:List α,L2 (Rd w J) (l.map f) (l.map g)
 | []=>L2.nil
 | a::l=>L2.cons (h a) (z05c f g h l)
theorem gES:Tryz.prog.globalNamed "strconv.ErrSyntax" = some 3:=by kernel_rfl
theorem gEST:(Tryz.prog.globals[3]?).map (·.type)=some 130:=by kernel_rfl
theorem gER:Tryz.prog.globalNamed "strconv.ErrRange" = some 4:=by kernel_rfl
theorem gERT:(Tryz.prog.globals[4]?).map (·.type)=some 130:=by kernel_rfl
theorem z05d:Tryz.prog.cellsOf 250=1:=by kernel_rfl
theorem z05e:Tryz.prog.cellsOf 9=1:=by kernel_rfl
theorem star : "*" ++ "errors.errorString" = "*errors.errorString" := by decide
theorem rowE (u:TypeId) (h:Tryz.prog.typeName? 3 u=some "*errors.errorString"):u=248 :=
 typeName_ptr_named (nm := "errors.errorString") (by rw [star];kernel_rfl) (by kernel_rfl) (by decide) u (by rw [star];exact h)
theorem glob_of {W:World} (h:laidMetH Tryz.prog laidL W):∃ X:EV,Glob (GX X) (Old W) W:=by
 rw [MakeChecks.laidMetH_plain _ _ _ (by kernel_rfl)] at h
 have hP:=h.tail.tail
 have hL:=h.tail.tail.tail.tail
 have tP:Lib.TabIs Tryz.prog W "internal/strconv.uint64pow10" .u64 Lib.pow10Tab:=Lib.tabIs_of_head (g:=6) (by kernel_rfl) (by kernel_rfl) Tryz.underlying238 Tryz.underlying44 (by kernel_rfl) (by kernel_rfl) hP
 obtain ⟨a1,s1,hv1,-,-,-⟩:=laid_sentinel hL gER gERT Tryz.underlying130 rowE Tryz.underlying248 Tryz.underlying250 rfl rfl Tryz.underlying9 z05d z05e
 obtain ⟨a0,s0,hv0,-,-,-⟩:=laid_sentinel hL.tail gES gEST Tryz.underlying130 rowE Tryz.underlying248 Tryz.underlying250 rfl rfl Tryz.underlying9 z05d z05e
 obtain ⟨t1,p1,hv0⟩:∃ te pe,W.var? Tryz.prog "strconv.ErrSyntax" = some #[.iface te pe]:=⟨_,_,hv0⟩
 obtain ⟨t2,p2,hv1⟩:∃ te pe,W.var? Tryz.prog "strconv.ErrRange" = some #[.iface te pe]:=⟨_,_,hv1⟩
 refine ⟨⟨t1,p1,t2,p2⟩,?_⟩
 intro g cs hg
 match g,hg with
 | 3,hg =>
  injection hg with hg
  subst hg
  obtain ⟨hb,T,fz,hh⟩:=zq2 gES hv0
  exact ⟨hb,[.iface t1 p1],T,fz,L2.cons (Rd.cst _ rfl) L2.nil,by simpa using hh⟩
 | 4,hg =>
  injection hg with hg
  subst hg
  obtain ⟨hb,T,fz,hh⟩:=zq2 gER hv1
  exact ⟨hb,[.iface t2 p2],T,fz,L2.cons (Rd.cst _ rfl) L2.nil,by simpa using hh⟩
 | 6,hg =>
  injection hg with hg
  subst hg
  obtain ⟨hb,T,fz,hh⟩:=zq2 (g:=6) (by kernel_rfl) tP
  exact ⟨hb,_,T,fz,z05c (fun z=>PV.int .u64 z) (fun z=>Value.int .u64 z) (fun z=>Rd.int _ _) Lib.pow10Tab,by simpa using hh⟩
 | 5,hg=>cases hg
 | 0,hg=>cases hg
 | 1,hg=>cases hg
 | 2,hg=>cases hg
 | _+7,hg=>cases hg
theorem met (os:Os) (args:Array Value):laidMetH Tryz.prog laidL ((World.laidAll Tryz.prog os laidL).forCall (fun _ _=>0) ⟨#[],args,[]⟩).memory:=by
 rw [MakeChecks.laidMetH_plain _ _ _ (by kernel_rfl)];exact laidMet_laidAll _ (by kernel_rfl) (by kernel_rfl)
end Go.Proofs.YtokjbpmjdcbogaaGreatDoor.LaidA

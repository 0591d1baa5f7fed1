/- The law CheckRules of the given program holds: whatever the input, it returns true, and the input reads as it did: its tied card (the listed variables of Go's library lie as the program's text lays them). -/
import Derived.Test.YtimbigpplbbjaaaGreatDoorTie
import Derived.Test.YtimbigpplbbjaaaGreatDoorCards
import Derived.Test.YtimbigpplbbjaaaGreatDoorGwW3
import Derived.Test.YtimbigpplbbjaaaGreatDoorParS
import Derived.Test.YtimbigpplbbjaaaGreatDoorAbsW
import Derived.Test.YtimbigpplbbjaaaGreatDoorLaidC
import Derived.WalkKit
import Derived.ProofKit
import Derived.OpenShut
import Derived.ChangeOld
import Derived.Below
import Derived.SizedLaws
import Derived.Lay
import Derived.LaidMore
import Derived.SevenTiedAt
import Derived.Stop.Joined
namespace Go.Proofs.YtimbigpplbbjaaaGreatDoor.checkRules
open Go Go.ChangeShapes Go.WideShapes Go.ChangeAt Go.RowKit Go.Proofs.YtimbigpplbbjaaaGreatDoor.Abs
set_option linter.unusedVariables false
theorem laidOut:laidOutB Tryz.prog=true:=by kernel_rfl
def z45 (x:z3y):List PV:=[.int .i64 x.From,.str x.Tag,.int .i64 x.To]
def zz9 (x:z3y):Prop:=InK .i64 x.From∧x.Tag.size≤maxLen∧InK .i64 x.To
theorem z05c {H:Type} {enc:TypeId × Value→H} {w:World} (fuel:Nat):Dec Tryz.prog enc w fuel 84 z45 zz9:=by
 cases fuel with
 | zero=>exact dec0
 | succ fuel=>exact zw5 (N:=3) (fun x:Int × ByteArray × Int × Unit=>z3y.mk x.1 x.2.1 x.2.2.1) Tryz.underlying84 (by kernel_rfl) (zpo (sz:=1) rfl (by kernel_rfl) (zy6 Tryz.underlying3 fuel) (zpo (sz:=1) rfl (by kernel_rfl) (z04k Tryz.underlying9 fuel) (zpo (sz:=1) rfl (by kernel_rfl) (zy6 Tryz.underlying3 fuel) (z04l (by decide))))) (fun _=>rfl) (fun x h=>⟨h.1,h.2.1,h.2.2.1⟩)
def z07w (l:(List z3y)):Prop:=(∀ x∈l,zz9 x)∧l.length≤maxLen
theorem z05d {H:Type} {enc:TypeId × Value→H} {w:World} (fuel:Nat):Dec Tryz.prog enc w fuel 80 (fun l:(List z3y)=>[.sl (List.map z45 l)]) z07w:=by
 cases fuel with
 | zero=>exact dec0
 | succ fuel=>exact zy8 (e:=z45) (sz:=3) (ok:=fun x=>zz9 x) Tryz.underlying80 (by kernel_rfl) (by decide) (fun _=>rfl) (z05c fuel)
set_option maxRecDepth 100000 in
theorem lifted (os:Os) (started:os.Started) (H:Type) (enc:TypeId × Value→H) :
  ReturnsInHanded {} Tryz.checked os 5 .any (fun w args=>(Rows.checkRulesSpec.pre enc Tryz.prog Tryz.f5 [] false w args∧laidMetH Tryz.prog LaidA.laidL w)∧sizedMet enc Tryz.prog Tryz.f5 (OpenSpec.ofChange Rows.checkRulesSpec) false w args)
   (Rows.checkRulesSpec.post enc Tryz.prog Tryz.f5 false true false false):=by
 refine returnsInHanded_of_change_and (C:=Tryz.checked) (X:=fun w _=>laidMetH Tryz.prog LaidA.laidL w) (fun _ _ _ hh h=>h.of_heap hh) LaidA.own started (by kernel_rfl) Tryz.func5
  (ChangeSpec.witness_shaped (enc:=enc) (C:=Tryz.checked) (os:=os) (X:=fun w _=>laidMetH Tryz.prog LaidA.laidL w) false (World.laidAll Tryz.prog os LaidA.laidL) #[.slice none 0 0] 8 (World.laidAll_os _ _ _)
   (World.shaped_of_ZipB (by kernel_rfl) (by kernel_rfl)) (by kernel_rfl) (by kernel_rfl) (by kernel_rfl) (LaidA.met os _)) ?_
 intro W base args ds gs before hval0 hW _ hsz0 hL _
 have hval:∀ (j:Nat) t v,Tryz.f5.params[j]?=some t→args[j]?=some v→Value.okWide Tryz.prog W .any base t v:=hval0
 have hW':=hW
 obtain ⟨p,q,hA0,hV,rfl,hfz,hnd⟩:=hW
 have hA:DataW.TrodAll enc Tryz.prog W 0 (fun _=>true) true Tryz.f5.params.toList args.toList ds p:=hA0
 rw [Tryz.params5] at hA hval
 obtain ⟨v0,vs0,d0,ds0,p0,q0,hargs,rfl,rfl,h0,r0⟩:=trodAll_cons hA
 obtain ⟨rfl,rfl,rfl⟩:=trodAll_nil r0
 obtain rfl:args=#[v0]:=by cases args;simp_all
 obtain ⟨rfl,rfl⟩:=trodVars_none hV
 have h0k:=h0
 obtain ⟨fuel0,hf0⟩:=h0
 obtain ⟨a0,ok0,l0⟩:=(z05d fuel0) _ _ _ hf0
 have g0:∀ cs,v0≠.agg cs:=zy9 Tryz.underlying80 (hval 0 80 _ rfl rfl)
 obtain ⟨X,hG⟩:=LaidA.glob_of hL
 have hm:=(zmv (X:=X) (a0:=a0) (r:=true) (Cm.law_CheckRules _)).2
 refine (zw6 hm hG (L2.cons (z07a l0 g0) L2.nil)).mono fun e W' ⟨he,bel⟩=>?_
 subst he
 exact ⟨_,rfl,_,_,_,[],_,[],hW',trodAll_mk1 (shut_bool Tryz.underlying4 _),(trodAll_cons_mk (Below.trod laidOut (by kernel_rfl) (of_decide_eq_true (by kernel_rfl)) h0k bel (fun x hx=>hW'.lt x (by simp [hx]))) trodAll_mk0),rfl,bel.frame _,fun h=>by cases h⟩
theorem over:Rows.checkRulesRow.holds Tryz.pinned (OpenSpec.ofChange Rows.checkRulesSpec) :=
 OpenClaim.holds_of_wide 5 Tryz.f5 rfl rfl rfl rfl rfl rfl rfl ⟨rfl,rfl,rfl,rfl,rfl⟩ rfl rfl rfl rfl rfl (by kernel_rfl) Tryz.func5 (by kernel_rfl)
  (of_decide_eq_true (by kernel_rfl)) (by unfold Func.isWrapper;first|(rw [if_pos (by decide +kernel)];kernel_rfl)|(rw [if_neg (by decide +kernel)];exact ⟨rfl,rfl⟩))
  (fun os started H enc _=>lifted os started H enc)
theorem card:Rows.CheckRulesCardSaid :=
 Claim7.holds_tied_plain_at .later [] _ _ _ _
  over (fun _ h=>by cases h) (by kernel_rfl) (fun _ h=>by cases h) checkRules_row_tie rfl ⟨rfl,rfl⟩ (by kernel_rfl) rfl
  (fun f fn hf hfn=>by
   obtain rfl:f=5:=Option.some.inj ((show Tryz.prog.funcNamed "jetsam/jetsamlaw04.CheckRules" = some 5 by kernel_rfl).symm.trans hf) |>.symm
   obtain rfl:fn=Tryz.f5:=(Option.some.inj (Tryz.func5.symm.trans hfn)).symm
   exact ⟨by kernel_rfl,fun j t ht=>by
    rw [Tryz.params5] at ht
    have hm:t∈[80]:=by simpa using Array.mem_of_getElem? ht
    have hall:([80].all fun u=>!Tryz.prog.wantsStandIn u)=true:=by kernel_rfl
    exact (show Tryz.prog.wantsStandIn t=false by simpa using List.all_eq_true.1 hall t hm)⟩)
  (by kernel_rfl)
end Go.Proofs.YtimbigpplbbjaaaGreatDoor.checkRules
namespace Go.Proofs.YtimbigpplbbjaaaGreatDoor
theorem checkRules_card:Rows.CheckRulesCardSaid:=checkRules.card
end Go.Proofs.YtimbigpplbbjaaaGreatDoor

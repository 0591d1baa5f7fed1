/- The law CheckPlaces of the given program holds where what comes in is of bulk at most 1048576: it returns true, and the input reads as it did: its tied card (the listed variables lie as the program's text lays them). -/
import Derived.Test.YtimbigpplbbjaaaGreatDoorTie
import Derived.Test.YtimbigpplbbjaaaGreatDoorCards
import Derived.Test.YtimbigpplbbjaaaGreatDoorGwW3
import Derived.Test.YtimbigpplbbjaaaGreatDoorParS
import Derived.Test.YtimbigpplbbjaaaGreatDoorAbsB
import Derived.Test.YtimbigpplbbjaaaGreatDoorAbsW
import Derived.Test.YtimbigpplbbjaaaGreatDoorLaidC
import Derived.WalkKit
import Derived.ProofKit
import Derived.OpenShut
import Derived.ChangeOld
import Derived.Below
import Derived.SizedLaws
import Derived.Lay
import Derived.LaidMore
import Derived.SevenTiedAt
import Derived.Stop.Joined
import Derived.Deep.DeepHandedRow
namespace Go.Proofs.YtimbigpplbbjaaaGreatDoor.checkPlaces
open Go Go.ChangeShapes Go.WideShapes Go.ChangeAt Go.RowKit Go.Proofs.YtimbigpplbbjaaaGreatDoor.Abs
set_option linter.unusedVariables false
set_option linter.unusedSimpArgs false
theorem laidOut:laidOutB Tryz.prog=true:=by kernel_rfl
theorem reads (os:Os) {H:Type} (enc:TypeId × Value→H):∃ places,DataW.whole enc Tryz.prog ((World.laidAll Tryz.prog os LaidA.laidL).forCall (fun _ _=>0) ⟨#[],#[(.agg #[.slice none 0 0,.slice none 0 0,.slice none 0 0])],[]⟩).memory Tryz.f4.params.toList Rows.checkPlacesSpec.vars false #[(.agg #[.slice none 0 0,.slice none 0 0,.slice none 0 0]:Value)].toList 8=some ([.agg [.nil,.nil,.nil]],[],places) :=
 ⟨[],by kernel_rfl⟩
set_option maxRecDepth 100000 in
theorem lifted (os:Os) (started:os.Started) (H:Type) (enc:TypeId × Value→H) (F:Stop.Interp) :
  ReturnsInHanded {} Tryz.checked os 4 .any ((Rows.OpenSpec.upto Rows.checkPlacesSpec).preRow enc Tryz.prog Tryz.f4 Rows.checkPlacesUptoRow.domain false Rows.checkPlacesUptoRow.laid) (((Rows.OpenSpec.upto Rows.checkPlacesSpec).at F).post enc Tryz.prog Tryz.f4 false true false false):=by
 obtain ⟨places,hx⟩:=reads os enc
 have hok:Input.okWideB Tryz.prog ((World.laidAll Tryz.prog os LaidA.laidL).forCall (fun _ _=>0) ⟨#[],#[(.agg #[.slice none 0 0,.slice none 0 0,.slice none 0 0])],[]⟩) 4 ⟨#[],#[(.agg #[.slice none 0 0,.slice none 0 0,.slice none 0 0])],[]⟩=true:=by kernel_rfl
 refine returnsInHanded_of_row (C:=Tryz.checked) (s:=Rows.OpenSpec.upto Rows.checkPlacesSpec) LaidA.own started (by kernel_rfl) Tryz.func4
  ⟨World.laidAll Tryz.prog os LaidA.laidL,fun _ _=>0,⟨#[],#[(.agg #[.slice none 0 0,.slice none 0 0,.slice none 0 0])],[]⟩,World.laidAll_os _ _ _,World.shaped_of_ZipB (by kernel_rfl) (by kernel_rfl),(Input.okWide_of_okWideB (base:=0) hok).1,(Input.okWide_of_okWideB hok).2,
   OpenSpec.preRow_of_cond 8 hx (by kernel_rfl) (fun k hk=>by cases hk;kernel_rfl) (by kernel_rfl) (LaidA.met os _),by
    simp only [Assume.holds]
    exact ⟨by simp,by simp,fun _=>Modest.zero,by simp,by simp⟩⟩ ?_
 intro W base args ds gs before hval0 hW _ hcond hsz0 hL _ _
 have hval:∀ (j:Nat) t v,Tryz.f4.params[j]?=some t→args[j]?=some v→Value.okWide Tryz.prog W .any base t v:=hval0
 have hk:=hcond _ rfl
 have hW':=hW
 obtain ⟨p,q,hA0,hV,rfl,hfz,hnd⟩:=hW
 have hA:DataW.TrodAll enc Tryz.prog W 0 (fun _=>true) true Tryz.f4.params.toList args.toList ds p:=hA0
 rw [Tryz.params4] at hA hval
 obtain ⟨v0,vs0,d0,ds0,p0,q0,hargs,rfl,rfl,h0,r0⟩:=trodAll_cons hA
 obtain ⟨rfl,rfl,rfl⟩:=trodAll_nil r0
 obtain rfl:args=#[v0]:=by cases args;simp_all
 obtain ⟨rfl,rfl⟩:=trodVars_none hV
 have hsum:Rows.uptoBulk d0≤1048576:=by
  have h:=of_decide_eq_true hk
  simp only [List.append_nil,List.cons_append,List.nil_append,Rows.uptoBulkAll] at h
  omega
 have h0k:=h0
 obtain ⟨fuel0,hf0⟩:=h0
 obtain ⟨a0,ok0,l0,m0⟩:=(Wri.decB_Sys fuel0) _ _ _ hf0
 have hb0:Rows.uptoBulk d0≤1048576:=by omega
 obtain ⟨X,hG⟩:=LaidA.glob_of hL
 have hm:=(zmh (X:=X) (a0:=a0) (r:=true) (Cm.law_CheckPlaces (Wri.okSys_of ok0 (Nat.le_trans m0 hb0)).1 (by have:=(Wri.okSys_of ok0 (Nat.le_trans m0 hb0)).2;omega))).2
 refine (zwe hm hG (L2.cons (z07o l0 (Nat.le_of_ble_eq_true rfl)) L2.nil)).mono fun e W' ⟨he,bel⟩=>?_
 subst he
 exact ⟨_,rfl,_,_,_,[],_,[],hW',trodAll_mk1 (shut_bool Tryz.underlying4 _),(trodAll_cons_mk (Below.trod laidOut (by kernel_rfl) (of_decide_eq_true (by kernel_rfl)) h0k bel (fun x hx=>hW'.lt x (by simp [hx]))) trodAll_mk0),rfl,bel.frame _,fun h=>by cases h⟩
theorem said:Rows.CheckPlacesUptoSaid :=
 OpenClaim.holds_of_cond 4 Tryz.f4 rfl rfl rfl rfl rfl rfl rfl ⟨rfl,rfl,rfl,rfl,rfl⟩ rfl rfl rfl rfl rfl (by kernel_rfl) Tryz.func4 (by kernel_rfl)
  (of_decide_eq_true (by kernel_rfl)) (by unfold Func.isWrapper;first|(rw [if_pos (by decide +kernel)];kernel_rfl)|(rw [if_neg (by decide +kernel)];exact ⟨rfl,rfl⟩))
  (fun os started H enc _ F=>by rw [OpenClaim.pre_eq_preRow];exact lifted os started H enc F)
theorem plain (f:FuncId) (fn:Func) (hf:Tryz.pinned.checked.prog.funcNamed "jetsam/jetsamlaw04.CheckPlaces" = some f) (hfn:Tryz.pinned.checked.prog.funcs[f]?=some fn) :
  true=Tryz.pinned.checked.prog.looks []∧∀ (j:Nat) t,fn.params[j]?=some t→Tryz.pinned.checked.prog.wantsStandIn t=false:=by
 obtain rfl:f=4:=Option.some.inj ((show Tryz.prog.funcNamed "jetsam/jetsamlaw04.CheckPlaces" = some 4 by kernel_rfl).symm.trans hf) |>.symm
 obtain rfl:fn=Tryz.f4:=(Option.some.inj (Tryz.func4.symm.trans hfn)).symm
 refine ⟨by kernel_rfl,fun j t ht=>?_⟩
 rw [Tryz.params4] at ht
 have hm:t∈[26]:=by simpa using Array.mem_of_getElem? ht
 have hall:([26].all fun u=>!Tryz.prog.wantsStandIn u)=true:=by kernel_rfl
 exact (show Tryz.prog.wantsStandIn t=false by simpa using List.all_eq_true.1 hall t hm)
theorem card:Rows.CheckPlacesUptoCardSaid :=
 Claim7.holds_tied_plain_at .later [] _ _ _ _ said (fun _ h=>by cases h) (by kernel_rfl) (fun _ h=>by cases h) checkPlacesUpto_row_tie rfl ⟨rfl,rfl⟩ (by kernel_rfl) rfl plain (by kernel_rfl)
end Go.Proofs.YtimbigpplbbjaaaGreatDoor.checkPlaces
namespace Go.Proofs.YtimbigpplbbjaaaGreatDoor
theorem checkPlaces_card:Rows.CheckPlacesUptoCardSaid:=checkPlaces.card
end Go.Proofs.YtimbigpplbbjaaaGreatDoor

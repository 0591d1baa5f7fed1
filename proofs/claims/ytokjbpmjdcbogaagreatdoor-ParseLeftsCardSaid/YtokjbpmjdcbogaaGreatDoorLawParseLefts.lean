/- The law ParseLefts of the given program holds: whatever the input, it returns true, and the input reads as it did: its tied card (the listed variables of Go's library lie as the program's text lays them). -/
import Derived.Test.YtokjbpmjdcbogaaGreatDoorTie
import Derived.Test.YtokjbpmjdcbogaaGreatDoorCards
import Derived.Test.YtokjbpmjdcbogaaGreatDoorGwW1
import Derived.Test.YtokjbpmjdcbogaaGreatDoorParS
import Derived.Test.YtokjbpmjdcbogaaGreatDoorAbsW
import Derived.Test.YtokjbpmjdcbogaaGreatDoorLaidA
import Derived.WalkKit
import Derived.ProofKit
import Derived.OpenShut
import Derived.ChangeOld
import Derived.Below
import Derived.SizedLaws
import Derived.Lay
import Derived.LaidMore
import Derived.SevenTiedAt
import Derived.Stop.Joined
namespace Go.Proofs.YtokjbpmjdcbogaaGreatDoor.parseLefts
open Go Go.ChangeShapes Go.WideShapes Go.ChangeAt Go.RowKit Go.Proofs.YtokjbpmjdcbogaaGreatDoor.Abs
set_option linter.unusedVariables false
theorem laidOut : laidOutB Tryz.prog = true := by kernel_rfl
def zvw (l : (List Int)) : Prop := (∀ x ∈ l, InK .u8 x) ∧ l.length ≤ maxLen
theorem ztt {H : Type} {enc : TypeId × Value → H} {w : World} (fuel : Nat) : Dec Tryz.prog enc w fuel 59 (fun l : (List Int) => [.sl (List.map e_u8 l)]) zvw := by
 cases fuel with
 | zero => exact dec0
 | succ fuel => exact znh (e := e_u8) (sz := 1) (ok := fun x => InK .u8 x) Tryz.underlying59 (by kernel_rfl) (by decide) (fun _ => rfl) (znf Tryz.underlying5 fuel)
set_option maxRecDepth 100000 in
theorem lifted (os : Os) (started : os.Started) (H : Type) (enc : TypeId × Value → H) :
  ReturnsInHanded {} Tryz.checked os 6 .any (fun w args => (Rows.parseLeftsSpec.pre enc Tryz.prog Tryz.f6 [] false w args ∧ laidMetH Tryz.prog LaidA.laidL w) ∧ sizedMet enc Tryz.prog Tryz.f6 (OpenSpec.ofChange Rows.parseLeftsSpec) false w args)
   (Rows.parseLeftsSpec.post enc Tryz.prog Tryz.f6 false true false false) := by
 refine returnsInHanded_of_change_and (C := Tryz.checked) (X := fun w _ => laidMetH Tryz.prog LaidA.laidL w) (fun _ _ _ hh h => h.of_heap hh) LaidA.own started (by kernel_rfl) Tryz.func6
  (ChangeSpec.witness_shaped (enc := enc) (C := Tryz.checked) (os := os) (X := fun w _ => laidMetH Tryz.prog LaidA.laidL w) false (World.laidAll Tryz.prog os LaidA.laidL) #[.int .i64 0, .slice none 0 0] 8 (World.laidAll_os _ _ _)
   (World.shaped_of_ZipB (by kernel_rfl) (by kernel_rfl)) (by kernel_rfl) (by kernel_rfl) (by kernel_rfl) (LaidA.met os _)) ?_
 intro W base args ds gs before hval0 hW _ hsz0 hL _
 have hval : ∀ (j : Nat) t v, Tryz.f6.params[j]? = some t → args[j]? = some v → Value.okWide Tryz.prog W .any base t v := hval0
 have hW' := hW
 obtain ⟨p, q, hA0, hV, rfl, hfz, hnd⟩ := hW
 have hA : DataW.TrodAll enc Tryz.prog W 0 (fun _ => true) true Tryz.f6.params.toList args.toList ds p := hA0
 rw [Tryz.params6] at hA hval
 obtain ⟨v0, vs0, d0, ds0, p0, q0, hargs, rfl, rfl, h0, r0⟩ := trodAll_cons hA
 obtain ⟨v1, vs1, d1, ds1, p1, q1, rfl, rfl, rfl, h1, r1⟩ := trodAll_cons r0
 obtain ⟨rfl, rfl, rfl⟩ := trodAll_nil r1
 obtain rfl : args = #[v0, v1] := by cases args; simp_all
 obtain ⟨rfl, rfl⟩ := trodVars_none hV
 have h0k := h0
 obtain ⟨fuel0, hf0⟩ := h0
 obtain ⟨a0, ok0, l0⟩ := (znf Tryz.underlying3 fuel0) _ _ _ hf0
 have g0 : ∀ cs, v0 ≠ .agg cs := zt6 Tryz.underlying3 (hval 0 3 _ rfl rfl)
 have h1k := h1
 obtain ⟨fuel1, hf1⟩ := h1
 obtain ⟨a1, ok1, l1⟩ := (ztt fuel1) _ _ _ hf1
 have g1 : ∀ cs, v1 ≠ .agg cs := zni Tryz.underlying59 (hval 1 59 _ rfl rfl)
 obtain ⟨X, hG⟩ := LaidA.glob_of hL
 have hm := (zdy (X := X) (a0 := a0) (a1 := a1) (r := true) (Par.law_ParseLefts a0 (fun x hx => Int.le_trans (by decide) ((ok1).1 x hx).lo))).2
 refine (zlu hm hG (L2.cons (zrs l0 g0) (L2.cons (zrs l1 g1) L2.nil))).mono fun e W' ⟨he, bel⟩ => ?_
 subst he
 exact ⟨_, rfl, _, _, _, [], _, [], hW', trodAll_mk1 (shut_bool Tryz.underlying4 _), (trodAll_cons_mk (Below.trod laidOut (by kernel_rfl) (of_decide_eq_true (by kernel_rfl)) h0k bel (fun x hx => hW'.lt x (by simp [hx]))) (trodAll_cons_mk (Below.trod laidOut (by kernel_rfl) (of_decide_eq_true (by kernel_rfl)) h1k bel (fun x hx => hW'.lt x (by simp [hx]))) trodAll_mk0)), rfl, bel.frame _, fun h => by cases h⟩
theorem over : Rows.parseLeftsRow.holds Tryz.pinned (OpenSpec.ofChange Rows.parseLeftsSpec) :=
 OpenClaim.holds_of_wide 6 Tryz.f6 rfl rfl rfl rfl rfl rfl rfl ⟨rfl, rfl, rfl, rfl, rfl⟩ rfl rfl rfl rfl rfl (by kernel_rfl) Tryz.func6 (by kernel_rfl)
  (of_decide_eq_true (by kernel_rfl)) (by unfold Func.isWrapper; first | (rw [if_pos (by decide +kernel)]; kernel_rfl) | (rw [if_neg (by decide +kernel)]; exact ⟨rfl, rfl⟩))
  (fun os started H enc _ => lifted os started H enc)
theorem card : Rows.ParseLeftsCardSaid :=
 Claim7.holds_tied_plain_at .later [] [.data, .data, .data, .data, .sentinel, .sentinel, .pinned] true (true, "89744914e371904cfc55d0d1f50e55b5b5d382c0a8b57f48da85e838034d1a0b") true
  over (fun _ h => by cases h) (by kernel_rfl) (fun _ h => by cases h) parseLefts_row_tie rfl ⟨rfl, rfl⟩ (by kernel_rfl) rfl
  (fun f fn hf hfn => by
   obtain rfl : f = 6 := Option.some.inj ((show Tryz.prog.funcNamed "jetsam/jetsamlaw03.ParseLefts" = some 6 by kernel_rfl).symm.trans hf) |>.symm
   obtain rfl : fn = Tryz.f6 := (Option.some.inj (Tryz.func6.symm.trans hfn)).symm
   exact ⟨by kernel_rfl, fun j t ht => by
    rw [Tryz.params6] at ht
    have hm : t ∈ [3, 59] := by simpa using Array.mem_of_getElem? ht
    have hall : ([3, 59].all fun u => !Tryz.prog.wantsStandIn u) = true := by kernel_rfl
    exact (show Tryz.prog.wantsStandIn t = false by simpa using List.all_eq_true.1 hall t hm)⟩)
  (by kernel_rfl)
#print axioms card
end Go.Proofs.YtokjbpmjdcbogaaGreatDoor.parseLefts
namespace Go.Proofs.YtokjbpmjdcbogaaGreatDoor
theorem parseLefts_card : Rows.ParseLeftsCardSaid := parseLefts.card
end Go.Proofs.YtokjbpmjdcbogaaGreatDoor

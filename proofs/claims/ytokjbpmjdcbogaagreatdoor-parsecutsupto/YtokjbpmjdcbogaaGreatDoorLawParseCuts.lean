/- The law ParseCuts of the given program holds where what comes in is of bulk at most 1048576: it returns true, and the input reads as it did: its tied card (the listed variables lie as the program's text lays them). -/
import Derived.Test.YtokjbpmjdcbogaaGreatDoorTie
import Derived.Test.YtokjbpmjdcbogaaGreatDoorCards
import Derived.Test.YtokjbpmjdcbogaaGreatDoorGwW3
import Derived.Test.YtokjbpmjdcbogaaGreatDoorParS
import Derived.Test.YtokjbpmjdcbogaaGreatDoorAbsB
import Derived.Test.YtokjbpmjdcbogaaGreatDoorAbsW
import Derived.Test.YtokjbpmjdcbogaaGreatDoorLaidA
import Derived.WalkKit
import Derived.ProofKit
import Derived.OpenShut
import Derived.ChangeOld
import Derived.Below
import Derived.SizedLaws
import Derived.Lay
import Derived.LaidMore
import Derived.SevenTiedAt
import Derived.Stop.Joined
import Derived.Deep.DeepHandedRow
namespace Go.Proofs.YtokjbpmjdcbogaaGreatDoor.parseCuts
open Go Go.ChangeShapes Go.WideShapes Go.ChangeAt Go.RowKit Go.Proofs.YtokjbpmjdcbogaaGreatDoor.Abs
set_option linter.unusedVariables false
set_option linter.unusedSimpArgs false
theorem laidOut : laidOutB Tryz.prog = true := by kernel_rfl
theorem reads (os : Os) {H : Type} (enc : TypeId × Value → H) : ∃ places, DataW.whole enc Tryz.prog ((World.laidAll Tryz.prog os LaidA.laidL).forCall (fun _ _ => 0) ⟨#[], #[(.agg #[.slice none 0 0, .slice none 0 0, .slice none 0 0]), (.int .i64 0), (.string ByteArray.empty)], []⟩).memory Tryz.f5.params.toList Rows.parseCutsSpec.vars false #[(.agg #[.slice none 0 0, .slice none 0 0, .slice none 0 0] : Value), (.int .i64 0 : Value), (.string ByteArray.empty : Value)].toList 8 = some ([.agg [.nil, .nil, .nil], .lit (.int .i64 0), .lit (.string [])], [], places) :=
 ⟨[], by kernel_rfl⟩
set_option maxRecDepth 100000 in
theorem lifted (os : Os) (started : os.Started) (H : Type) (enc : TypeId × Value → H) (F : Stop.Interp) :
  ReturnsInHanded {} Tryz.checked os 5 .any ((Rows.OpenSpec.upto Rows.parseCutsSpec).preRow enc Tryz.prog Tryz.f5 Rows.parseCutsUptoRow.domain false Rows.parseCutsUptoRow.laid) (((Rows.OpenSpec.upto Rows.parseCutsSpec).at F).post enc Tryz.prog Tryz.f5 false true false false) := by
 obtain ⟨places, hx⟩ := reads os enc
 have hok : Input.okWideB Tryz.prog ((World.laidAll Tryz.prog os LaidA.laidL).forCall (fun _ _ => 0) ⟨#[], #[(.agg #[.slice none 0 0, .slice none 0 0, .slice none 0 0]), (.int .i64 0), (.string ByteArray.empty)], []⟩) 5 ⟨#[], #[(.agg #[.slice none 0 0, .slice none 0 0, .slice none 0 0]), (.int .i64 0), (.string ByteArray.empty)], []⟩ = true := by kernel_rfl
 refine returnsInHanded_of_row (C := Tryz.checked) (s := Rows.OpenSpec.upto Rows.parseCutsSpec) LaidA.own started (by kernel_rfl) Tryz.func5
  ⟨World.laidAll Tryz.prog os LaidA.laidL, fun _ _ => 0, ⟨#[], #[(.agg #[.slice none 0 0, .slice none 0 0, .slice none 0 0]), (.int .i64 0), (.string ByteArray.empty)], []⟩, World.laidAll_os _ _ _, World.shaped_of_ZipB (by kernel_rfl) (by kernel_rfl), (Input.okWide_of_okWideB (base := 0) hok).1, (Input.okWide_of_okWideB hok).2,
   OpenSpec.preRow_of_cond 8 hx (by kernel_rfl) (fun k hk => by cases hk; kernel_rfl) (by kernel_rfl) (LaidA.met os _), by
    simp only [Assume.holds]
    exact ⟨by simp, by simp, fun _ => Modest.zero, by simp, by simp⟩⟩ ?_
 intro W base args ds gs before hval0 hW _ hcond hsz0 hL _ _
 have hval : ∀ (j : Nat) t v, Tryz.f5.params[j]? = some t → args[j]? = some v → Value.okWide Tryz.prog W .any base t v := hval0
 have hk := hcond _ rfl
 have hW' := hW
 obtain ⟨p, q, hA0, hV, rfl, hfz, hnd⟩ := hW
 have hA : DataW.TrodAll enc Tryz.prog W 0 (fun _ => true) true Tryz.f5.params.toList args.toList ds p := hA0
 rw [Tryz.params5] at hA hval
 obtain ⟨v0, vs0, d0, ds0, p0, q0, hargs, rfl, rfl, h0, r0⟩ := trodAll_cons hA
 obtain ⟨v1, vs1, d1, ds1, p1, q1, rfl, rfl, rfl, h1, r1⟩ := trodAll_cons r0
 obtain ⟨v2, vs2, d2, ds2, p2, q2, rfl, rfl, rfl, h2, r2⟩ := trodAll_cons r1
 obtain ⟨rfl, rfl, rfl⟩ := trodAll_nil r2
 obtain rfl : args = #[v0, v1, v2] := by cases args; simp_all
 obtain ⟨rfl, rfl⟩ := trodVars_none hV
 have hsum : Rows.uptoBulk d0 + Rows.uptoBulk d1 + Rows.uptoBulk d2 ≤ 1048576 := by
  have h := of_decide_eq_true hk
  simp only [List.append_nil, List.cons_append, List.nil_append, Rows.uptoBulkAll] at h
  omega
 have h0k := h0
 obtain ⟨fuel0, hf0⟩ := h0
 obtain ⟨a0, ok0, l0, m0⟩ := (Wri.decB_Sys fuel0) _ _ _ hf0
 have hb0 : Rows.uptoBulk d0 ≤ 1048576 := by omega
 have h1k := h1
 obtain ⟨fuel1, hf1⟩ := h1
 obtain ⟨a1, ok1, l1, m1⟩ := (zdb Tryz.underlying3 fuel1) _ _ _ hf1
 have hb1 : Rows.uptoBulk d1 ≤ 1048576 := by omega
 have g1 : ∀ cs, v1 ≠ .agg cs := z049 Tryz.underlying3 (hval 1 3 _ rfl rfl)
 have h2k := h2
 obtain ⟨fuel2, hf2⟩ := h2
 obtain ⟨a2, ok2, l2, m2⟩ := (z9s Tryz.underlying9 fuel2) _ _ _ hf2
 have hb2 : Rows.uptoBulk d2 ≤ 1048576 := by omega
 have g2 : ∀ cs, v2 ≠ .agg cs := z04a Tryz.underlying9 (hval 2 9 _ rfl rfl)
 obtain ⟨X, hG⟩ := LaidA.glob_of hL
 have hm := (zmo (X := X) (a0 := a0) (a1 := a1) (a2 := a2) (r := true) (Par.law_ParseCuts (Wri.okSys_of ok0 (Nat.le_trans m0 hb0)).1 (by have := (Wri.okSys_of ok0 (Nat.le_trans m0 hb0)).2; omega) _ _)).2
 refine (zvs hm hG (L2.cons (z078 l0 (Nat.le_of_ble_eq_true rfl)) (L2.cons (z02n l1 g1) (L2.cons (z02n l2 g2) L2.nil)))).mono fun e W' ⟨he, bel⟩ => ?_
 subst he
 exact ⟨_, rfl, _, _, _, [], _, [], hW', trodAll_mk1 (shut_bool Tryz.underlying4 _), (trodAll_cons_mk (Below.trod laidOut (by kernel_rfl) (of_decide_eq_true (by kernel_rfl)) h0k bel (fun x hx => hW'.lt x (by simp [hx]))) (trodAll_cons_mk (Below.trod laidOut (by kernel_rfl) (of_decide_eq_true (by kernel_rfl)) h1k bel (fun x hx => hW'.lt x (by simp [hx]))) (trodAll_cons_mk (Below.trod laidOut (by kernel_rfl) (of_decide_eq_true (by kernel_rfl)) h2k bel (fun x hx => hW'.lt x (by simp [hx]))) trodAll_mk0))), rfl, bel.frame _, fun h => by cases h⟩
theorem said : Rows.ParseCutsUptoSaid :=
 OpenClaim.holds_of_cond 5 Tryz.f5 rfl rfl rfl rfl rfl rfl rfl ⟨rfl, rfl, rfl, rfl, rfl⟩ rfl rfl rfl rfl rfl (by kernel_rfl) Tryz.func5 (by kernel_rfl)
  (of_decide_eq_true (by kernel_rfl)) (by unfold Func.isWrapper; first | (rw [if_pos (by decide +kernel)]; kernel_rfl) | (rw [if_neg (by decide +kernel)]; exact ⟨rfl, rfl⟩))
  (fun os started H enc _ F => by rw [OpenClaim.pre_eq_preRow]; exact lifted os started H enc F)
theorem plain (f : FuncId) (fn : Func) (hf : Tryz.pinned.checked.prog.funcNamed "jetsam/jetsamlaw03.ParseCuts" = some f) (hfn : Tryz.pinned.checked.prog.funcs[f]? = some fn) :
  true = Tryz.pinned.checked.prog.looks [] ∧ ∀ (j : Nat) t, fn.params[j]? = some t → Tryz.pinned.checked.prog.wantsStandIn t = false := by
 obtain rfl : f = 5 := Option.some.inj ((show Tryz.prog.funcNamed "jetsam/jetsamlaw03.ParseCuts" = some 5 by kernel_rfl).symm.trans hf) |>.symm
 obtain rfl : fn = Tryz.f5 := (Option.some.inj (Tryz.func5.symm.trans hfn)).symm
 refine ⟨by kernel_rfl, fun j t ht => ?_⟩
 rw [Tryz.params5] at ht
 have hm : t ∈ [34, 3, 9] := by simpa using Array.mem_of_getElem? ht
 have hall : ([34, 3, 9].all fun u => !Tryz.prog.wantsStandIn u) = true := by kernel_rfl
 exact (show Tryz.prog.wantsStandIn t = false by simpa using List.all_eq_true.1 hall t hm)
theorem card : Rows.ParseCutsUptoCardSaid :=
 Claim7.holds_tied_plain_at .later [] _ _ _ _ said (fun _ h => by cases h) (by kernel_rfl) (fun _ h => by cases h) parseCutsUpto_row_tie rfl ⟨rfl, rfl⟩ (by kernel_rfl) rfl plain (by kernel_rfl)
end Go.Proofs.YtokjbpmjdcbogaaGreatDoor.parseCuts
namespace Go.Proofs.YtokjbpmjdcbogaaGreatDoor
theorem parseCuts_card : Rows.ParseCutsUptoCardSaid := parseCuts.card
end Go.Proofs.YtokjbpmjdcbogaaGreatDoor
